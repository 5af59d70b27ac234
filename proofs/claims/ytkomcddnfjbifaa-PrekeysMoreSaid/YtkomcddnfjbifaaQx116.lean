-- PRINTED by print.py (a twelfth state) out of the translation. Not trusted: Lean checks it.
import Derived.Test.YtkomcddnfjbifaaQx0
namespace Go.Proofs.Ytkomcddnfjbifaa.Q
open Go.RowKit Go.Proofs.YtkomcddnfjbifaaW.PrintWords Go.Proofs.YtkomcddnfjbifaaW.PrintLast Go.Proofs.YtkomcddnfjbifaaW.PrintMore
attribute [local go_sem] max2_int min2_int max_two min_two max_three min_three max_four min_four   -- for this text's walks alone
set_option linter.unusedVariables false
set_option linter.unusedSimpArgs false

/-! ### demurralref15_Rest: function 16 -/
def demurralref15_Rest.f (l0 : List (S26)) : Option ((List (S26))) := if (l0.length : Int) = 0 then (some l0) else (if 1 ≤ (l0.length : Int) then (some (l0.drop 1)) else (none))
set_option maxHeartbeats 8000000 in
set_option maxRecDepth 100000 in
theorem demurralref15_Rest.calls (P0_ : Nat → Prop) (A0 : Option Addr) (c0 : Nat) (l0 : List (S26)) (r : List (S26)) (w : World) (hs0 : Kd.V k26 26 w w.heap.size (fun k_ => P0_ k_) (.slice A0 l0.length c0) l0) (h : demurralref15_Rest.f l0 = some r) :
    Calls Try.prog 16 #[.slice A0 l0.length c0] w fun e w' => ∃ v0_ : Value, e = .returned (v0_) ∧ Kd.V k26 26 w' w.heap.size (fun k_ => (P0_ k_ ∨ w.heap.size ≤ k_)) v0_ r ∧ Below w.heap.size w w' := by
  have HO0 := Aside0.mk (show Kd.V k26 26 w w.heap.size (fun k_ => (P0_ k_ ∨ w.heap.size ≤ k_)) (.slice A0 l0.length c0) l0 from Kd.V_mono hs0 (fun k_ hk => .inl hk))
  have HB := Aside0.mk (Below.refl w.heap.size w)
  have H : (if (l0.length : Int) = 0 then (some l0) else (if 1 ≤ (l0.length : Int) then (some (l0.drop 1)) else (none))) = some r := h
  clear h
  by_cases c2 : (l0.length : Int) = 0
  · rw [if_pos c2] at H
    have c2b0 : ((l0.length : Int) == 0) = true := beq_iff_eq.mpr c2
    have c2b1 : ((l0.length : Int) != 0) = false := bne_eq_false_iff_eq.mpr c2
    clear c2
    obtain rfl := Option.some.inj H
    go_enter Try.func16, Try.ntmps16
    go_wp2
    go_ret
    exact ⟨_, by first | rfl | (simp [errW_none, errW_some] <;> rfl) | (simp [*, errW_none, errW_some] <;> rfl), by (with_reducible repeat (first | apply Kd.V_alloc | apply Kd.V_drewN | apply Kd.V_drew)); exact HO0.out, by repeat (first | (with_reducible first | exact HB.out | apply below_alloc | apply pw_below_drewN | apply below_drew1) | exact HB.out)⟩
  · rw [if_neg c2] at H
    have c2b0 : ((l0.length : Int) == 0) = false := beq_eq_false_iff_ne.mpr c2
    have c2b1 : ((l0.length : Int) != 0) = true := bne_iff_ne.mpr c2
    have c2b2 : ¬ (l0 = []) := fun h_ => c2 (by rw [h_]; rfl)
    by_cases c3 : 1 ≤ (l0.length : Int)
    · rw [if_pos c3] at H
      have c3b0 := eq_true c3
      have c3b1 : decide (1 ≤ (l0.length : Int)) = true := decide_eq_true c3
      clear c3
      obtain ⟨y167, hy167⟩ : ∃ y_ : List (S26), y_ = (l0.drop 1) := ⟨_, rfl⟩
      replace H : (some y167) = some r := by first | (rw [hy167]; with_reducible exact H) | (have H2_ := (Option.bind_some _ _).symm.trans H; rw [hy167]; with_reducible exact H2_) | (have H2_ := (Option.bind_some _ _).symm.trans H; with_reducible exact H2_) | with_reducible exact H | (rw [hy167]; exact H) | exact H
      have Ny167 := Aside0.mk hy167
      clear hy167
      obtain rfl := Option.some.inj H
      have q4 : (1 : Int) ≤ ((l0.length : Int) : Int) := of_decide_eq_true (by first | (with_reducible assumption) | assumption)
      obtain ⟨i04, hi04, _, hsz4, _⟩ := info_parts info26
      have hroom4 : l0.length ≤ c0 := (Kd.V_reads' HO0.out).2.1
      have hC4 : Kd.F k26 _ _ A0 l0.length l0 := (Kd.V_at (base := w.heap.size) HO0.out).2.2
      have hcut4 := cut_from (P := Try.prog) 27 26 .i64 Try.underlying27 hi04 2 hsz4 A0 l0.length c0 1 (by omega) q4
      have hr4 := Kd.F_cut (m := (1 : Int).toNat) (c := c0) hC4 (by omega) hroom4
      obtain ⟨A4, hA4⟩ : ∃ A1, A1 = (if c0 = (1 : Int).toNat then A0 else (A0 : Option Addr).map (·.add ((1 : Int).toNat * 2))) := ⟨_, rfl⟩
      obtain ⟨c4, hc4⟩ : ∃ c1, c1 = c0 - (1 : Int).toNat := ⟨_, rfl⟩
      have hy4 : y167.length = l0.length - (1 : Int).toNat := (by rw [Ny167.out, List.length_drop] <;> omega)
      rw [show (l0).drop (1 : Int).toNat = y167 from Ny167.out.symm] at hr4
      replace hr4 : Kd.F k26 _ _ A4 y167.length y167 := (by rw [hA4]; exact hr4)
      rw [← hy4, ← hA4, ← hc4] at hcut4
      have HO171 := Aside0.mk (show Kd.V k26 26 _ w.heap.size _ (.slice A4 y167.length c4) y167 from Kd.V_mk (by rw [hy4, hc4]; exact Nat.sub_le_sub_right hroom4 _) hr4)
      have HC171 := Aside0.mk (show y167.length ≤ c4 from by rw [hy4, hc4]; exact Nat.sub_le_sub_right hroom4 _)
      clear hr4 hC4 hroom4 hi04 hsz4 hc4
      have KY4 := Aside0.mk hy4
      have KA4 := Aside0.mk hA4
      clear hy4 hA4
      replace q4 := eq_true q4
      go_enter Try.func16, Try.ntmps16
      go_wp2
      go_ret
      exact ⟨_, by first | rfl | (simp [errW_none, errW_some] <;> rfl) | (simp [*, errW_none, errW_some] <;> rfl), by (with_reducible repeat (first | apply Kd.V_alloc | apply Kd.V_drewN | apply Kd.V_drew)); exact HO171.out, by repeat (first | (with_reducible first | exact HB.out | apply below_alloc | apply pw_below_drewN | apply below_drew1) | exact HB.out)⟩
    · rw [if_neg c3] at H
      exact absurd H (by simp)

end Go.Proofs.Ytkomcddnfjbifaa.Q
