/- relay.all of two questions; relay.Right.
   Conditions: as in HRight. -/
import Derived.Test.YtbmfcikjhnnnbaaHRight
namespace Go.Proofs.Ytbmfcikjhnnnbaa.Q
open Go.RowKit Go.Proofs.YtbmfcikjhnnnbaaW.PrintWords Go.Proofs.YtbmfcikjhnnnbaaW.PrintLast Go.Proofs.YtbmfcikjhnnnbaaW.PrintMore
set_option linter.unusedVariables false
set_option linter.unusedSimpArgs false

theorem enter32 (args : Array Value) (W : World) : (callFunc 32 args).run Try.prog W = .ok (.enter 32 args) W := by
  have h := Try.func32
  simp [callFunc, h, Try.f32, Sem.run_bind]
theorem enter33 (args : Array Value) (W : World) : (callFunc 33 args).run Try.prog W = .ok (.enter 33 args) W := by
  have h := Try.func33
  simp [callFunc, h, Try.f33, Sem.run_bind]
abbrev fq (F : Nat) (q : Addr) : Value := .func (.func F) #[] #[.pointer (some q)]
theorem all1_calls (F : Nat) (q : Addr) (b : Bool) (w : World) (hF : ∀ args W, (callFunc F args).run Try.prog W = .ok (.enter F args) W) (h : Calls Try.prog F #[.pointer (some q)] w fun e w' => e = .returned (.bool b) ∧ Below w.heap.size w w') :
    Calls Try.prog 51 #[fq F q] w fun e w' => e = .returned (.bool (!b)) ∧ Below w.heap.size w w' := by
  go_enter Try.func51, Try.ntmps51
  go_wp2_with fail
  refine h.mono ?_; rintro e_ w2 ⟨rfl, hb⟩
  go_wp2
  go_ret
  exact ⟨rfl, hb⟩
set_option maxHeartbeats 1000000 in
theorem index_calls (g : Nat) (q : Addr) (F1 F2 : Nat) (b1 b2 : Bool) (w : World) (hF1 : ∀ args W, (callFunc F1 args).run Try.prog W = .ok (.enter F1 args) W) (hF2 : ∀ args W, (callFunc F2 args).run Try.prog W = .ok (.enter F2 args) W) (hg : w.heap[g]? = some (.cells #[fq F1 q, fq F2 q] 32 (0, 0)))
    (h1 : ∀ W, Below w.heap.size w W → Calls Try.prog F1 #[.pointer (some q)] W fun e w' => e = .returned (.bool b1) ∧ Below W.heap.size W w') (h2 : b1 = true → ∀ W, Below w.heap.size w W → Calls Try.prog F2 #[.pointer (some q)] W fun e w' => e = .returned (.bool b2) ∧ Below W.heap.size W w') :
    Calls Try.prog 57 #[.slice (some ⟨g, 0, none⟩) 2 2, .func (.func 51) #[] #[]] w fun e w' => e = .returned (.int .i64 (if b1 then (if b2 then -1 else 1) else 0)) ∧ Below w.heap.size w w' := by
  have hgl := blk_lt hg
  obtain ⟨k0, k1⟩ := box2 hg
  replace h1 := Lib.hid h1
  replace h2 := Lib.hid h2
  go_enter Try.func57, Try.ntmps57
  go_wp2
  go_loopw [8] (fun v wr => Below w.heap.size w wr ∧ (v = .int .i64 0 ∨ (v = .int .i64 1 ∧ b1 = true) ∨ (v = .int .i64 2 ∧ b1 = true ∧ b2 = true))) (fun v _ => 2 - (intOf v).toNat)
  case atStart => exact ⟨Below.refl _ _, .inl rfl⟩
  case round =>
    obtain ⟨hB, (rfl | ⟨rfl, hb1⟩ | ⟨rfl, hb1, hb2⟩)⟩ := hrel
    · have z0 : wr.cell? ⟨g, 0, none⟩ = some (fq F1 q) := (Below.cell (p := ⟨g, 0, none⟩) hB hgl).trans k0
      have hc := Aside0.mk (all1_calls F1 q b1 wr hF1 (h1.out wr hB))
      go_wp2_with fail
      refine hc.out.mono ?_; rintro e_ w2 ⟨rfl, hb⟩
      have hB2 := Aside0.mk (below_step hB hb)
      clear hc hb z0
      cases b1 with
      | false =>
        go_wp2
        go_ret
        exact ⟨rfl, hB2.out⟩
      | true =>
        go_wp2
        go_roundw
        case rel => exact ⟨hB2.out, .inr (.inl ⟨rfl, by trivial⟩)⟩
        case measure => simp [intOf]
    · subst hb1
      have z1 : wr.cell? ⟨g, 1, none⟩ = some (fq F2 q) := (Below.cell (p := ⟨g, 1, none⟩) hB hgl).trans k1
      have hc := Aside0.mk (all1_calls F2 q b2 wr hF2 (h2.out rfl wr hB))
      go_wp2_with fail
      refine hc.out.mono ?_; rintro e_ w2 ⟨rfl, hb⟩
      have hB2 := Aside0.mk (below_step hB hb)
      clear hc hb z1
      cases b2 with
      | false =>
        go_wp2
        go_ret
        exact ⟨rfl, hB2.out⟩
      | true =>
        go_wp2
        go_roundw
        case rel => exact ⟨hB2.out, .inr (.inr ⟨rfl, by trivial⟩)⟩
        case measure => simp [intOf]
    · subst hb1 hb2
      go_wp2
      go_ret
      exact ⟨rfl, hB⟩
theorem all_calls (g : Nat) (q : Addr) (F1 F2 : Nat) (b1 b2 : Bool) (w : World) (hF1 : ∀ args W, (callFunc F1 args).run Try.prog W = .ok (.enter F1 args) W) (hF2 : ∀ args W, (callFunc F2 args).run Try.prog W = .ok (.enter F2 args) W) (hg : w.heap[g]? = some (.cells #[fq F1 q, fq F2 q] 32 (0, 0)))
    (h1 : ∀ W, Below w.heap.size w W → Calls Try.prog F1 #[.pointer (some q)] W fun e w' => e = .returned (.bool b1) ∧ Below W.heap.size W w') (h2 : b1 = true → ∀ W, Below w.heap.size w W → Calls Try.prog F2 #[.pointer (some q)] W fun e w' => e = .returned (.bool b2) ∧ Below W.heap.size W w') :
    Calls Try.prog 31 #[.slice (some ⟨g, 0, none⟩) 2 2] w fun e w' => e = .returned (.bool (b1 && b2)) ∧ Below w.heap.size w w' := by
  have hi := Aside0.mk (index_calls g q F1 F2 b1 b2 w hF1 hF2 hg h1 h2)
  have hc : Calls Try.prog 50 #[.slice (some ⟨g, 0, none⟩) 2 2, .func (.func 51) #[] #[]] w fun e w' => e = .returned (.bool (!(b1 && b2))) ∧ Below w.heap.size w w' := by
    go_enter Try.func50, Try.ntmps50
    go_wp2_with fail
    refine hi.out.mono ?_; rintro e_ w2 ⟨rfl, hb⟩
    cases b1 <;> cases b2
    all_goals
      go_wp2
      go_ret
      exact ⟨rfl, hb⟩
  replace hc := Aside0.mk hc
  clear hi h1 h2
  go_enter Try.func31, Try.ntmps31
  go_wp2_with fail
  refine hc.out.mono ?_; rintro e_ w2 ⟨rfl, hb⟩
  go_wp2
  go_ret
  exact ⟨by simp, hb⟩
theorem right1_calls (gr : Nat) (A0 : Option Addr) (n c0 : Nat) (now next : Int) (w : World) (hK : w.heap[gr]? = some (.cells #[.slice A0 n c0, .int .u64 now, .int .u64 next] 25 (0, 0))) :
    Calls Try.prog 32 #[.pointer (some ⟨gr, 0, none⟩)] w fun e w' => e = .returned (.bool (decide (n ≤ 8) && (decide (now < 4611686018427387904) && decide (next < 4611686018427387904)))) ∧ Below w.heap.size w w' := by
  obtain ⟨k0, k1, k2⟩ := box3 hK
  by_cases h1 : n ≤ 8
  · have e1 : decide ((n : Int) ≤ 8) = true := decide_eq_true (by omega)
    have e1p : (n : Int) ≤ 8 := by omega
    rw [decide_eq_true h1, Bool.true_and]
    by_cases h2 : now < 4611686018427387904
    · have e2 : decide (now < 4611686018427387904) = true := decide_eq_true h2
      rw [e2, Bool.true_and]
      go_enter Try.func32, Try.ntmps32
      go_wp2
      go_ret
      exact ⟨rfl, Below.refl _ _⟩
    · have e2 : decide (now < 4611686018427387904) = false := decide_eq_false h2
      rw [e2, Bool.false_and]
      go_enter Try.func32, Try.ntmps32
      go_wp2
      go_ret
      exact ⟨rfl, Below.refl _ _⟩
  · have e1 : decide ((n : Int) ≤ 8) = false := decide_eq_false (by omega)
    have e1p : ¬ ((n : Int) ≤ 8) := by omega
    rw [decide_eq_false h1, Bool.false_and]
    go_enter Try.func32, Try.ntmps32
    go_wp2
    go_ret
    exact ⟨rfl, Below.refl _ _⟩
def relB (l : List S57) (now next : Int) : Bool := (decide (l.length ≤ 8) && (decide (now < 4611686018427387904) && decide (next < 4611686018427387904))) && rowB now next l
theorem right_calls (A0 : Option Addr) (c0 : Nat) (l0 : List S57) (now next : Int) (w : World) (hr0 : Kd.C k57 w A0 l0.length l0) (hwf : wfB l0) (hnow : 0 ≤ now ∧ now ≤ 18446744073709551615) :
    Calls Try.prog 10 #[.agg #[.slice A0 l0.length c0, .int .u64 now, .int .u64 next]] w fun e w' => e = .returned (.bool (relB l0 now next)) ∧ Below w.heap.size w w' := by
  obtain ⟨w1, hw1⟩ : ∃ w1, w.alloc (.cells #[.slice A0 l0.length c0, .int .u64 now, .int .u64 next] 25 (0, 0)) = w1 := ⟨_, rfl⟩
  have hb1 : Below w.heap.size w w1 := by rw [← hw1]; exact below_alloc (Below.refl _ _) _
  have hK1 : w1.heap[w.heap.size]? = some (.cells #[.slice A0 l0.length c0, .int .u64 now, .int .u64 next] 25 (0, 0)) := by rw [← hw1]; exact heap_alloc_new _ _
  obtain ⟨w2, hw2⟩ : ∃ w2, w1.alloc (.cells #[fq 32 ⟨w.heap.size, 0, none⟩, fq 33 ⟨w.heap.size, 0, none⟩] 32 (0, 0)) = w2 := ⟨_, rfl⟩
  have hb2 : Below w1.heap.size w1 w2 := by rw [← hw2]; exact below_alloc (Below.refl _ _) _
  have hK2 : w2.heap[w1.heap.size]? = some (.cells #[fq 32 ⟨w.heap.size, 0, none⟩, fq 33 ⟨w.heap.size, 0, none⟩] 32 (0, 0)) := by rw [← hw2]; exact heap_alloc_new _ _
  have hB2 := below_step hb1 hb2
  have hK12 := (hb2.block _ (blk_lt hK1)).trans hK1
  have hall := Aside0.mk (all_calls w1.heap.size ⟨w.heap.size, 0, none⟩ 32 33 _ (rowB now next l0) w2 enter32 enter33 hK2 (fun W hW => right1_calls w.heap.size A0 l0.length c0 now next W ((hW.block _ (blk_lt hK12)).trans hK12)) (fun hb W hW => by
    have h8 : l0.length ≤ 8 := of_decide_eq_true (Bool.and_eq_true_iff.1 hb).1
    exact right2_calls w.heap.size A0 c0 l0 now next W ((hW.block _ (blk_lt hK12)).trans hK12) (Kd.C_below (Kd.C_below hr0 hB2) hW) (by omega) hwf hnow))
  replace hK1 := Lib.hid hK1
  replace hK2 := Lib.hid hK2
  replace hK12 := Lib.hid hK12
  go_enter Try.func10, Try.ntmps10
  go_wp2_with fail
  refine hall.out.mono ?_; rintro e_ w3 ⟨rfl, hb3⟩
  go_wp2
  go_ret
  exact ⟨rfl, below_step hB2 hb3⟩
end Go.Proofs.Ytbmfcikjhnnnbaa.Q
