-- PRINTED by print.py (a twelfth state) out of the translation. Not trusted: Lean checks it.
import Derived.Test.YtenmmeehgnkcpaaHStep
import Derived.Test.YtenmmeehgnkcpaaQx0
namespace Go.Proofs.Ytenmmeehgnkcpaa.Q
open Go.RowKit Go.Proofs.YtenmmeehgnkcpaaW.PrintWords Go.Proofs.YtenmmeehgnkcpaaW.PrintLast Go.Proofs.YtenmmeehgnkcpaaW.PrintMore
attribute [local go_sem] max2_int min2_int max_two min_two max_three min_three max_four min_four   -- for this text's walks alone
set_option linter.unusedVariables false
set_option linter.unusedSimpArgs false

/-! ### deduce_facts_places: function 50 -/
def deduce_facts_places.l0 : Nat → List Int → List Bool → Int → Int → Option (List Int)
  | 0, _, _, _, _ => none
  | k + 1, x3, x7, x8, x9 => if x9 < x8 then (if 0 ≤ x9 then (if x9 < (x7.length : Int) then (if rdOf false x7 x9 = true then (if x3.length < 17592186044416 then (deduce_facts_places.l0 k (x3 ++ [x9]) x7 x8 (wrap64 (x9 + 1))) else (none)) else (deduce_facts_places.l0 k x3 x7 x8 (wrap64 (x9 + 1)))) else (none)) else (none)) else (some x3)
def deduce_facts_places.f (k : Nat) (l0_0 : List (S28)) (l0_1 : List Bool) : Option (List Int) := deduce_facts_places.l0 k ([] : List Int) l0_1 (l0_1.length : Int) 0
theorem deduce_facts_places.mono_l : ∀ k, (∀ y0 y1 y2 y3, LeO (deduce_facts_places.l0 k y0 y1 y2 y3) (deduce_facts_places.l0 (k + 1) y0 y1 y2 y3))
  | 0 => fun _ _ _ _ r h => by simp [deduce_facts_places.l0] at h
  | k + 1 => by
    have ih0 := deduce_facts_places.mono_l k
    · intro y0 y1 y2 y3
      unfold deduce_facts_places.l0
      repeat' first
      | (with_reducible exact ih0 _ _ _ _)
      | (with_reducible exact LeO.refl _)
      | (with_reducible exact LeO.none _)
      | (with_reducible refine LeO.ite ?_ ?_)
      | (with_reducible refine LeO.bind ?_ (fun _ => ?_))
      | exact ih0 _ _ _ _
      | exact LeO.none _
      | refine LeO.ite ?_ ?_
      | refine LeO.bind ?_ (fun _ => ?_)
theorem deduce_facts_places.mono : ∀ a0 a1 k, LeO (deduce_facts_places.f k a0 a1) (deduce_facts_places.f (k + 1) a0 a1) := by
  intro a0 a1 k
  have ih0 := deduce_facts_places.mono_l k
  unfold deduce_facts_places.f
  repeat' first
      | (with_reducible exact ih0 _ _ _ _)
      | (with_reducible exact LeO.refl _)
      | (with_reducible exact LeO.none _)
      | (with_reducible refine LeO.ite ?_ ?_)
      | (with_reducible refine LeO.bind ?_ (fun _ => ?_))
      | exact ih0 _ _ _ _
      | exact LeO.none _
      | refine LeO.ite ?_ ?_
      | refine LeO.bind ?_ (fun _ => ?_)
set_option maxHeartbeats 8000000 in
set_option maxRecDepth 100000 in
theorem deduce_facts_places.calls (k : Nat) (A0_0 : Option Addr) (c0_0 : Nat) (l0_0 : List (S28)) (A0_1 : Option Addr) (c0_1 : Nat) (l0_1 : List Bool) (r : List Int) (w : World) (hr0_0 : Kd.C k28 w A0_0 l0_0.length l0_0) (hc0_0 : l0_0.length ≤ c0_0) (hr0_1 : Kd.C Kd.bool w A0_1 l0_1.length l0_1) (hc0_1 : l0_1.length ≤ c0_1) (h : deduce_facts_places.f k l0_0 l0_1 = some r) :
    Calls Try.prog 50 #[.agg #[.slice A0_0 l0_0.length c0_0, .slice A0_1 l0_1.length c0_1]] w fun e w' => ∃ v0_ : Value, e = .returned (v0_) ∧ Kd.R (Kd.int .i64) 3 w' w.heap.size (fun _ => True) v0_ r ∧ Below w.heap.size w w' := by
  have hu80 := Try.underlying80
  have HR0_0 := Aside0.mk hr0_0
  have HC0_0 := Aside0.mk hc0_0
  clear hr0_0 hc0_0
  have HR0_1 := Aside0.mk hr0_1
  have HC0_1 := Aside0.mk hc0_1
  clear hr0_1 hc0_1
  have HB := Aside0.mk (Below.refl w.heap.size w)
  have H : (deduce_facts_places.l0 k ([] : List Int) l0_1 (l0_1.length : Int) 0) = some r := h
  clear h
  have H' := Aside0.mk H
  clear H
  go_enter Try.func50, Try.ntmps50
  go_wp2_with (first | ((with_reducible refine gate_dst (N := 1) rfl ?_); refine box_event ?hg (N := 1) ?hd (cs := #[.slice A0_0 l0_0.length c0_0, .slice A0_1 l0_1.length c0_1]) (t := 80) ?hr ?_; (case hd => rfl); (case hg => rfl); (case hr => first | (go_simp; done) | (go_simp; rfl)); intro gb498 hg w2 hbox hb; have n0_ := Aside0.mk (below_step (wb_ HB.out) hb); have n1_ := Aside0.mk (hbox); have n2_ := Aside0.mk ((by rw [hg]; exact (below_size (wb_ HB.out)) : w.heap.size ≤ gb498)); have n3_ := Aside0.mk ((by rw [hg]; exact (below_size (wb_ HB.out)) : w.heap.size ≤ gb498)); clear HB; have HB := n0_; have BK498 := n1_; have GW498 := n2_; have GE498 := n3_; clear n0_ n1_ n2_ n3_; clear hb hbox hg; have hcz3_0 : w2.cell? ⟨gb498, 0, none⟩ = some (.slice A0_0 l0_0.length c0_0) := (blk_cell BK498.out 0).trans rfl; have hcz3_1 : w2.cell? ⟨gb498, 1, none⟩ = some (.slice A0_1 l0_1.length c0_1) := (blk_cell BK498.out 1).trans rfl; have hfz3_0 := blk_frozen BK498.out 0; have hfz3_1 := blk_frozen BK498.out 1))
  go_loopg [3, 9] k (fun kq v3 v9 w' => ∃ (x3_1 : List Int) (x9_1 : Int), v9 = .int .i64 x9_1 ∧ Aside0 (deduce_facts_places.l0 kq x3_1 l0_1 (l0_1.length : Int) x9_1 = some r) ∧ Aside0 (kq ≤ k) ∧ Aside0 (Kd.R (Kd.int .i64) 3 w' w.heap.size (fun _ => True) v3 x3_1) ∧ Aside0 (w'.heap[gb498]? = some (.cells #[(.slice A0_0 l0_0.length c0_0), (.slice A0_1 l0_1.length c0_1)] 80 (0, 0))) ∧ Aside0 (Below w.heap.size w w'))
  case atStart => exact ⟨(([] : List Int)), (0), (by first | rfl | (simp; done) | (simp [*]; done)), H', ⟨Nat.le_refl _⟩, ⟨by first | exact Kd.R_nil _ _ _ _ _ | exact Kd.N_nil _ _ _ _ _ | exact Kd.V_nil _ _ _ _ _ | exact Kd.Q_nil _ _ _ _ _ | exact Kd.S_nil _ _ _ _ _⟩, ⟨by (with_reducible repeat (first | refine blk_drewN ?_ _ | refine blk_drew ?_ | refine blk_alloc ?_ _)); exact BK498.out⟩, ⟨by repeat (first | (with_reducible first | exact HB.out | apply below_alloc | apply pw_below_drewN | apply below_drew1 | refine below_set ?_ GE498.out) | exact HB.out)⟩⟩
  case round =>
    clear H'
    try clear p2
    try clear hcz3_0
    try clear hcz3_1
    try clear hfz3_0
    try clear hfz3_1
    obtain ⟨x3_1, x9_1, rfl, HA, HK1, HO_3, BK498, HB⟩ := hrel
    cases gk with
    | zero => exact absurd HA.out (by simp [deduce_facts_places.l0])
    | succ k1 =>
      have H := HA.out
      clear HA
      simp only [deduce_facts_places.l0] at H
      by_cases c4 : x9_1 < (l0_1.length : Int)
      · rw [if_pos c4] at H
        have c4b0 : decide (x9_1 < (l0_1.length : Int)) = true := decide_eq_true c4
        clear c4
        by_cases c5 : 0 ≤ x9_1
        · rw [if_pos c5] at H
          have c5b0 : decide (0 ≤ x9_1) = true := decide_eq_true c5
          clear c5
          by_cases c6 : x9_1 < (l0_1.length : Int)
          · rw [if_pos c6] at H
            have c6b0 : decide (x9_1 < (l0_1.length : Int)) = true := decide_eq_true c6
            clear c6
            obtain ⟨bq7, hbq7⟩ : ∃ b_ : Bool, b_ = (rdOf false l0_1 x9_1) := ⟨_, rfl⟩
            replace H : (if bq7 = true then (if x3_1.length < 17592186044416 then (deduce_facts_places.l0 k1 (x3_1 ++ [x9_1]) l0_1 (l0_1.length : Int) (wrap64 (x9_1 + 1))) else (none)) else (deduce_facts_places.l0 k1 x3_1 l0_1 (l0_1.length : Int) (wrap64 (x9_1 + 1)))) = some r := by rw [← hbq7] at H; exact H
            have Nbq7 := Aside0.mk hbq7
            clear hbq7
            by_cases c8 : bq7 = true
            · subst c8
              have H1 : (if x3_1.length < 17592186044416 then (deduce_facts_places.l0 k1 (x3_1 ++ [x9_1]) l0_1 (l0_1.length : Int) (wrap64 (x9_1 + 1))) else (none)) = some r := by rw [if_pos rfl] at H; exact H
              clear H
              have H := H1
              clear H1
              by_cases c9 : x3_1.length < 17592186044416
              · rw [if_pos c9] at H
                have LMc9 := Aside0.mk c9
                clear c9
                obtain ⟨y500, hy500⟩ : ∃ y_ : List Int, y_ = (x3_1 ++ [x9_1]) := ⟨_, rfl⟩
                replace H : (deduce_facts_places.l0 k1 y500 l0_1 (l0_1.length : Int) (wrap64 (x9_1 + 1))) = some r := by first | (rw [hy500]; with_reducible exact H) | (have H2_ := (Option.bind_some _ _).symm.trans H; rw [hy500]; with_reducible exact H2_) | (have H2_ := (Option.bind_some _ _).symm.trans H; with_reducible exact H2_) | with_reducible exact H | (rw [hy500]; exact H) | exact H
                have Ny500 := Aside0.mk hy500
                clear hy500
                have H' := Aside0.mk H
                clear H
                have p499 : 0 ≤ (x9_1 : Int) := of_decide_eq_true (by first | (with_reducible assumption) | assumption)
                have q499 : x9_1 < (l0_1.length : Int) := of_decide_eq_true (by first | (with_reducible assumption) | assumption)
                obtain ⟨ad499, e499, hx499_0⟩ := Kd.at_bool HR0_1.out x9_1 p499 q499
                (try rw [← Nbq7.out] at hx499_0)
                cases e499
                replace hx499_0 := (HB.out.cell (World.block_lt_of_cell? w _ hx499_0)).trans hx499_0
                replace p499 := eq_true p499
                replace q499 := eq_true q499
                go_wp2_with (first | ((with_reducible refine gate_builtin (b := .append) (xs := #[.tmp 15, .tmp 17]) rfl ?_); at_builtin; refine Kd.R_append (Kd.int .i64) (w0 := w) w.heap.size rfl (.tmp 15) (.tmp 17) 33 3 (.int .i64 0) 8 rfl Try.underlying33 info3 rfl (by decide) (by omega) u3 x3_1 x9_1 [.int .i64 x9_1] (fun _ => True) (fun _ => False) rfl rfl ?aP (fun _ hk => hk.elim) ?aF ?aO ?aB ?aS ?aL ?_; (case aP => exact rfl); (case aB => exact (by repeat (first | (with_reducible first | exact HB.out | apply below_alloc | apply pw_below_drewN | apply below_drew1 | refine below_set ?_ GE498.out) | exact HB.out))); (case aF => exact (fun _ _ => trivial)); (case aO => exact (kR_ HO_3.out)); (case aS => exact (below_size (by repeat (first | (with_reducible first | exact HB.out | apply below_alloc | apply pw_below_drewN | apply below_drew1 | refine below_set ?_ GE498.out) | exact HB.out)))); (case aL => have := LMc9.out; omega); intro v501 w10 ho hb hg hat; rw [← Ny500.out] at ho; have n0_ := Aside0.mk (blk_grown (g := gb498) (o := .cells #[.slice A0_0 l0_0.length c0_0, .slice (some ad499) l0_1.length c0_1] 80 (0, 0)) (vb_ BK498.out) hg (Kd.R_ne HO_3.out BK498.out (by decide))); have n1_ := Aside0.mk (hb); have n2_ := Aside0.mk (ho); clear BK498; clear HB; clear HO_3; have BK498 := n0_; have HB := n1_; have HO502 := n2_; clear n0_ n1_ n2_; clear ho hb hg hat))
                go_roundg k1
                case measure => have := HK1.out; omega
                case rel => exact ⟨(y500), (wrap64 (x9_1 + 1)), (by first | rfl | (simp; done) | (simp [*]; done)), H', ⟨by have := HK1.out; omega⟩, ⟨by (with_reducible repeat (first | apply Kd.R_alloc | apply Kd.R_drewN | apply Kd.R_drew)); exact HO502.out⟩, ⟨by (with_reducible repeat (first | refine blk_drewN ?_ _ | refine blk_drew ?_ | refine blk_alloc ?_ _)); exact BK498.out⟩, ⟨by repeat (first | (with_reducible first | exact HB.out | apply below_alloc | apply pw_below_drewN | apply below_drew1 | refine below_set ?_ GE498.out) | exact HB.out)⟩⟩
              · rw [if_neg c9] at H
                exact absurd H (by simp)
            · replace c8 := Bool.eq_false_iff.mpr c8
              subst c8
              have H1 : (deduce_facts_places.l0 k1 x3_1 l0_1 (l0_1.length : Int) (wrap64 (x9_1 + 1))) = some r := by rw [if_neg (show ¬ (false = true) by decide)] at H; exact H
              clear H
              have H := H1
              clear H1
              have H' := Aside0.mk H
              clear H
              have p499 : 0 ≤ (x9_1 : Int) := of_decide_eq_true (by first | (with_reducible assumption) | assumption)
              have q499 : x9_1 < (l0_1.length : Int) := of_decide_eq_true (by first | (with_reducible assumption) | assumption)
              obtain ⟨ad499, e499, hx499_0⟩ := Kd.at_bool HR0_1.out x9_1 p499 q499
              (try rw [← Nbq7.out] at hx499_0)
              cases e499
              replace hx499_0 := (HB.out.cell (World.block_lt_of_cell? w _ hx499_0)).trans hx499_0
              replace p499 := eq_true p499
              replace q499 := eq_true q499
              go_wp2
              go_roundg k1
              case measure => have := HK1.out; omega
              case rel => exact ⟨(x3_1), (wrap64 (x9_1 + 1)), (by first | rfl | (simp; done) | (simp [*]; done)), H', ⟨by have := HK1.out; omega⟩, ⟨by (with_reducible repeat (first | apply Kd.R_alloc | apply Kd.R_drewN | apply Kd.R_drew)); exact HO_3.out⟩, ⟨by (with_reducible repeat (first | refine blk_drewN ?_ _ | refine blk_drew ?_ | refine blk_alloc ?_ _)); exact BK498.out⟩, ⟨by repeat (first | (with_reducible first | exact HB.out | apply below_alloc | apply pw_below_drewN | apply below_drew1 | refine below_set ?_ GE498.out) | exact HB.out)⟩⟩
          · rw [if_neg c6] at H
            exact absurd H (by simp)
        · rw [if_neg c5] at H
          exact absurd H (by simp)
      · rw [if_neg c4] at H
        have c4b0 : decide (x9_1 < (l0_1.length : Int)) = false := decide_eq_false c4
        clear c4
        obtain rfl := Option.some.inj H
        go_wp2
        go_ret
        exact ⟨_, by first | rfl | (simp [errW_none, errW_some] <;> rfl) | (simp [*, errW_none, errW_some] <;> rfl), by (with_reducible repeat (first | apply Kd.R_alloc | apply Kd.R_drewN | apply Kd.R_drew)); exact HO_3.out, by repeat (first | (with_reducible first | exact HB.out | apply below_alloc | apply pw_below_drewN | apply below_drew1 | refine below_set ?_ GE498.out) | exact HB.out)⟩

end Go.Proofs.Ytenmmeehgnkcpaa.Q
