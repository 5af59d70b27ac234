-- PRINTED by print.py (a twelfth state) out of the translation. Not trusted: Lean checks it.
import Derived.Test.YtkomcddnfjbifaaQx0
namespace Go.Proofs.Ytkomcddnfjbifaa.Q
open Go.RowKit Go.Proofs.YtkomcddnfjbifaaW.PrintWords Go.Proofs.YtkomcddnfjbifaaW.PrintLast Go.Proofs.YtkomcddnfjbifaaW.PrintMore
attribute [local go_sem] max2_int min2_int max_two min_two max_three min_three max_four min_four   -- for this text's walks alone
set_option linter.unusedVariables false
set_option linter.unusedSimpArgs false

/-! ### demurralref15_First: function 15 -/
def demurralref15_First.f (l0 : List (S26)) (a1 : Int) : Option ((List (S26))) := if (l0.length : Int) < a1 then (some l0) else (if 0 ≤ a1 then (if a1 ≤ (l0.length : Int) then (some (l0.take (a1 : Int).toNat)) else (none)) else (none))
set_option maxHeartbeats 8000000 in
set_option maxRecDepth 100000 in
theorem demurralref15_First.calls (P0_ : Nat → Prop) (A0 : Option Addr) (c0 : Nat) (l0 : List (S26)) (a1 : Int) (r : List (S26)) (w : World) (hs0 : Kd.V k26 26 w w.heap.size (fun k_ => P0_ k_) (.slice A0 l0.length c0) l0) (h : demurralref15_First.f l0 a1 = some r) :
    Calls Try.prog 15 #[.slice A0 l0.length c0, .int .i64 a1] w fun e w' => ∃ v0_ : Value, e = .returned (v0_) ∧ Kd.V k26 26 w' w.heap.size (fun k_ => (P0_ k_ ∨ w.heap.size ≤ k_)) v0_ r ∧ Below w.heap.size w w' := by
  have HO0 := Aside0.mk (show Kd.V k26 26 w w.heap.size (fun k_ => (P0_ k_ ∨ w.heap.size ≤ k_)) (.slice A0 l0.length c0) l0 from Kd.V_mono hs0 (fun k_ hk => .inl hk))
  have HB := Aside0.mk (Below.refl w.heap.size w)
  have H : (if (l0.length : Int) < a1 then (some l0) else (if 0 ≤ a1 then (if a1 ≤ (l0.length : Int) then (some (l0.take (a1 : Int).toNat)) else (none)) else (none))) = some r := h
  clear h
  by_cases c3 : (l0.length : Int) < a1
  · rw [if_pos c3] at H
    have c3b0 : decide ((l0.length : Int) < a1) = true := decide_eq_true c3
    clear c3
    obtain rfl := Option.some.inj H
    go_enter Try.func15, Try.ntmps15
    go_wp2
    go_ret
    exact ⟨_, by first | rfl | (simp [errW_none, errW_some] <;> rfl) | (simp [*, errW_none, errW_some] <;> rfl), by (with_reducible repeat (first | apply Kd.V_alloc | apply Kd.V_drewN | apply Kd.V_drew)); exact HO0.out, by repeat (first | (with_reducible first | exact HB.out | apply below_alloc | apply pw_below_drewN | apply below_drew1) | exact HB.out)⟩
  · rw [if_neg c3] at H
    have c3b0 : decide ((l0.length : Int) < a1) = false := decide_eq_false c3
    clear c3
    by_cases c4 : 0 ≤ a1
    · rw [if_pos c4] at H
      have c4b0 := eq_true c4
      have c4b1 : decide (0 ≤ a1) = true := decide_eq_true c4
      clear c4
      by_cases c5 : a1 ≤ (l0.length : Int)
      · rw [if_pos c5] at H
        have c5b0 := eq_true c5
        have c5b1 : decide (a1 ≤ (l0.length : Int)) = true := decide_eq_true c5
        clear c5
        obtain ⟨y162, hy162⟩ : ∃ y_ : List (S26), y_ = (l0.take (a1 : Int).toNat) := ⟨_, rfl⟩
        replace H : (some y162) = some r := by first | (rw [hy162]; with_reducible exact H) | (have H2_ := (Option.bind_some _ _).symm.trans H; rw [hy162]; with_reducible exact H2_) | (have H2_ := (Option.bind_some _ _).symm.trans H; with_reducible exact H2_) | with_reducible exact H | (rw [hy162]; exact H) | exact H
        have Ny162 := Aside0.mk hy162
        clear hy162
        obtain rfl := Option.some.inj H
        have q6 : (a1 : Int) ≤ ((l0.length : Int) : Int) := of_decide_eq_true (by first | (with_reducible assumption) | assumption)
        obtain ⟨i06, hi06, _, hsz6, _⟩ := info_parts info26
        have hroom6 : l0.length ≤ c0 := (Kd.V_reads' HO0.out).2.1
        have hC6 : Kd.F k26 _ _ A0 l0.length l0 := (Kd.V_at (base := w.heap.size) HO0.out).2.2
        have hcut6 := cut_to (P := Try.prog) 27 26 .i64 Try.underlying27 hi06 A0 l0.length c0 a1 (of_decide_eq_true (by first | (with_reducible assumption) | assumption)) q6 hroom6
        have hr6 := Kd.F_take (m := (a1 : Int).toNat) hC6 (by omega)
        have hy6 : y162.length = (a1 : Int).toNat := (by rw [Ny162.out, List.length_take]; omega)
        rw [← Ny162.out] at hr6
        rw [← hy6] at hcut6
        have HO166 := Aside0.mk (show Kd.V k26 26 _ w.heap.size _ (.slice A0 y162.length c0) y162 from Kd.V_mk (by omega) hr6)
        have HC166 := Aside0.mk (show y162.length ≤ c0 from by omega)
        clear hr6 hC6 hroom6 hi06 hsz6
        have KY6 := Aside0.mk hy6
        clear hy6
        replace q6 := eq_true q6
        go_enter Try.func15, Try.ntmps15
        go_wp2
        go_ret
        exact ⟨_, by first | rfl | (simp [errW_none, errW_some] <;> rfl) | (simp [*, errW_none, errW_some] <;> rfl), by (with_reducible repeat (first | apply Kd.V_alloc | apply Kd.V_drewN | apply Kd.V_drew)); exact HO166.out, by repeat (first | (with_reducible first | exact HB.out | apply below_alloc | apply pw_below_drewN | apply below_drew1) | exact HB.out)⟩
      · rw [if_neg c5] at H
        exact absurd H (by simp)
    · rw [if_neg c4] at H
      exact absurd H (by simp)

end Go.Proofs.Ytkomcddnfjbifaa.Q
