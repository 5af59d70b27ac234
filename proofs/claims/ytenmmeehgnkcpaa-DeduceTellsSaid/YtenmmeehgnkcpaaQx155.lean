-- PRINTED by print.py (a twelfth state) out of the translation. Not trusted: Lean checks it.
import Derived.Test.YtenmmeehgnkcpaaHStep
import Derived.Test.YtenmmeehgnkcpaaQx0
import Derived.Test.YtenmmeehgnkcpaaQx131
namespace Go.Proofs.Ytenmmeehgnkcpaa.Q
open Go.RowKit Go.Proofs.YtenmmeehgnkcpaaW.PrintWords Go.Proofs.YtenmmeehgnkcpaaW.PrintLast Go.Proofs.YtenmmeehgnkcpaaW.PrintMore
attribute [local go_sem] max2_int min2_int max_two min_two max_three min_three max_four min_four   -- for this text's walks alone
set_option linter.unusedVariables false
set_option linter.unusedSimpArgs false

/-! ### demurralref21_held: function 55 -/
mutual
def demurralref21_held.l0 : Nat → List (S28) → List Int → Int → List Int → Int → Int → Option (Bool)
  | 0, _, _, _, _, _, _ => none
  | k + 1, x0, x1, x2, x10, x11, x12 => if x12 < x11 then (if 0 ≤ x12 then (if x12 < (x10.length : Int) then (if 0 ≤ (rd x10 x12) then (if (rd x10 x12) < (x0.length : Int) then (if ((rd_T28 x0 (rd x10 x12)).f0) = 4 then (if ((rd_T28 x0 (rd x10 x12)).f2) = x2 then (demurralref21_held.j1 k x0 x1 x2 x10 x11 x12 true ((rd_T28 x0 (rd x10 x12)).f0) ((rd_T28 x0 (rd x10 x12)).f1) ((rd_T28 x0 (rd x10 x12)).f2) ((rd_T28 x0 (rd x10 x12)).f3)) else (demurralref21_held.j1 k x0 x1 x2 x10 x11 x12 (((rd_T28 x0 (rd x10 x12)).f3) == x2) ((rd_T28 x0 (rd x10 x12)).f0) ((rd_T28 x0 (rd x10 x12)).f1) ((rd_T28 x0 (rd x10 x12)).f2) ((rd_T28 x0 (rd x10 x12)).f3))) else (demurralref21_held.j1 k x0 x1 x2 x10 x11 x12 false ((rd_T28 x0 (rd x10 x12)).f0) ((rd_T28 x0 (rd x10 x12)).f1) ((rd_T28 x0 (rd x10 x12)).f2) ((rd_T28 x0 (rd x10 x12)).f3))) else (none)) else (none)) else (none)) else (none)) else (some false)
def demurralref21_held.j1 : Nat → List (S28) → List Int → Int → List Int → Int → Int → Bool → Int → Int → Int → Int → Option (Bool)
  | 0, _, _, _, _, _, _, _, _, _, _, _ => none
  | k + 1, x0, x1, x2, x10, x11, x12, x34, x221000, x221001, x221002, x221003 => if x34 = true then (some true) else (if x221000 = 5 then (if x221003 = x2 then ((demurralref20_In.f k x1 x221002).bind fun t221 => (if t221 = true then (some true) else (demurralref21_held.l0 k x0 x1 x2 x10 x11 (wrap64 (x12 + 1))))) else (demurralref21_held.l0 k x0 x1 x2 x10 x11 (wrap64 (x12 + 1)))) else (demurralref21_held.l0 k x0 x1 x2 x10 x11 (wrap64 (x12 + 1))))
end
def demurralref21_held.f (k : Nat) (l0 : List (S28)) (l1 : List Int) (a2 : Int) : Option (Bool) := demurralref21_held.l0 k l0 l1 a2 l1 (l1.length : Int) 0
theorem demurralref21_held.mono_l : ∀ k, (∀ y0 y1 y2 y3 y4 y5, LeO (demurralref21_held.l0 k y0 y1 y2 y3 y4 y5) (demurralref21_held.l0 (k + 1) y0 y1 y2 y3 y4 y5)) ∧ (∀ y0 y1 y2 y3 y4 y5 y6 y7 y8 y9 y10, LeO (demurralref21_held.j1 k y0 y1 y2 y3 y4 y5 y6 y7 y8 y9 y10) (demurralref21_held.j1 (k + 1) y0 y1 y2 y3 y4 y5 y6 y7 y8 y9 y10))
  | 0 => ⟨fun _ _ _ _ _ _ r h => by simp [demurralref21_held.l0] at h, fun _ _ _ _ _ _ _ _ _ _ _ r h => by simp [demurralref21_held.j1] at h⟩
  | k + 1 => by
    obtain ⟨ih0, ih1⟩ := demurralref21_held.mono_l k
    refine ⟨?_, ?_⟩
    · intro y0 y1 y2 y3 y4 y5
      unfold demurralref21_held.l0
      repeat' first
      | (with_reducible exact ih0 _ _ _ _ _ _)
      | (with_reducible exact ih1 _ _ _ _ _ _ _ _ _ _ _)
      | (with_reducible exact demurralref20_In.mono _ _ _)
      | (with_reducible exact LeO.refl _)
      | (with_reducible exact LeO.none _)
      | (with_reducible refine LeO.ite ?_ ?_)
      | (with_reducible refine LeO.bind ?_ (fun _ => ?_))
      | exact ih0 _ _ _ _ _ _
      | exact ih1 _ _ _ _ _ _ _ _ _ _ _
      | exact demurralref20_In.mono _ _ _
      | exact LeO.none _
      | refine LeO.ite ?_ ?_
      | refine LeO.bind ?_ (fun _ => ?_)
    · intro y0 y1 y2 y3 y4 y5 y6 y7 y8 y9 y10
      unfold demurralref21_held.j1
      repeat' first
      | (with_reducible exact ih0 _ _ _ _ _ _)
      | (with_reducible exact ih1 _ _ _ _ _ _ _ _ _ _ _)
      | (with_reducible exact demurralref20_In.mono _ _ _)
      | (with_reducible exact LeO.refl _)
      | (with_reducible exact LeO.none _)
      | (with_reducible refine LeO.ite ?_ ?_)
      | (with_reducible refine LeO.bind ?_ (fun _ => ?_))
      | exact ih0 _ _ _ _ _ _
      | exact ih1 _ _ _ _ _ _ _ _ _ _ _
      | exact demurralref20_In.mono _ _ _
      | exact LeO.none _
      | refine LeO.ite ?_ ?_
      | refine LeO.bind ?_ (fun _ => ?_)
theorem demurralref21_held.mono : ∀ a0 a1 a2 k, LeO (demurralref21_held.f k a0 a1 a2) (demurralref21_held.f (k + 1) a0 a1 a2) := by
  intro a0 a1 a2 k
  obtain ⟨ih0, ih1⟩ := demurralref21_held.mono_l k
  unfold demurralref21_held.f
  repeat' first
      | (with_reducible exact ih0 _ _ _ _ _ _)
      | (with_reducible exact ih1 _ _ _ _ _ _ _ _ _ _ _)
      | (with_reducible exact demurralref20_In.mono _ _ _)
      | (with_reducible exact LeO.refl _)
      | (with_reducible exact LeO.none _)
      | (with_reducible refine LeO.ite ?_ ?_)
      | (with_reducible refine LeO.bind ?_ (fun _ => ?_))
      | exact ih0 _ _ _ _ _ _
      | exact ih1 _ _ _ _ _ _ _ _ _ _ _
      | exact demurralref20_In.mono _ _ _
      | exact LeO.none _
      | refine LeO.ite ?_ ?_
      | refine LeO.bind ?_ (fun _ => ?_)
set_option maxHeartbeats 8000000 in
set_option maxRecDepth 100000 in
theorem demurralref21_held.calls (k : Nat) (A0 : Option Addr) (c0 : Nat) (l0 : List (S28)) (A1 : Option Addr) (c1 : Nat) (l1 : List Int) (a2 : Int) (r : Bool) (w : World) (hr0 : Kd.C k28 w A0 l0.length l0) (hc0 : l0.length ≤ c0) (hr1 : Kd.C (Kd.int .i64) w A1 l1.length l1) (hc1 : l1.length ≤ c1) (h : demurralref21_held.f k l0 l1 a2 = some r) :
    Calls Try.prog 55 #[.slice A0 l0.length c0, .slice A1 l1.length c1, .int .i64 a2] w fun e w' => e = .returned (.bool r) ∧ Below w.heap.size w w' := by
  have hu28 := Try.underlying28
  have HR0 := Aside0.mk hr0
  have HC0 := Aside0.mk hc0
  clear hr0 hc0
  have HR1 := Aside0.mk hr1
  have HC1 := Aside0.mk hc1
  clear hr1 hc1
  have HB := Aside0.mk (Below.refl w.heap.size w)
  have H : (demurralref21_held.l0 k l0 l1 a2 l1 (l1.length : Int) 0) = some r := h
  clear h
  have H' := Aside0.mk H
  clear H
  go_enter Try.func55, Try.ntmps55
  go_wp2
  go_loopg [12] k (fun kq v12 w' => ∃ (x12_1 : Int), v12 = .int .i64 x12_1 ∧ Aside0 (demurralref21_held.l0 kq l0 l1 a2 l1 (l1.length : Int) x12_1 = some r) ∧ Aside0 (kq ≤ k) ∧ Aside0 (Below w.heap.size w w'))
  case atStart => exact ⟨(0), (by first | rfl | (simp; done) | (simp [*]; done)), H', ⟨Nat.le_refl _⟩, ⟨by repeat (first | (with_reducible first | exact HB.out | apply below_alloc | apply pw_below_drewN | apply below_drew1) | exact HB.out)⟩⟩
  case round =>
    clear H'
    try clear c1
    try clear p2
    obtain ⟨x12_1, rfl, HA, HK1, HB⟩ := hrel
    cases gk with
    | zero => exact absurd HA.out (by simp [demurralref21_held.l0])
    | succ k1 =>
      have H := HA.out
      clear HA
      simp only [demurralref21_held.l0] at H
      by_cases c4 : x12_1 < (l1.length : Int)
      · rw [if_pos c4] at H
        have c4b0 : decide (x12_1 < (l1.length : Int)) = true := decide_eq_true c4
        clear c4
        by_cases c5 : 0 ≤ x12_1
        · rw [if_pos c5] at H
          have c5b0 : decide (0 ≤ x12_1) = true := decide_eq_true c5
          clear c5
          by_cases c6 : x12_1 < (l1.length : Int)
          · rw [if_pos c6] at H
            have c6b0 : decide (x12_1 < (l1.length : Int)) = true := decide_eq_true c6
            clear c6
            by_cases c7 : 0 ≤ (rd l1 x12_1)
            · rw [if_pos c7] at H
              have c7b0 : decide (0 ≤ (rd l1 x12_1)) = true := decide_eq_true c7
              clear c7
              by_cases c8 : (rd l1 x12_1) < (l0.length : Int)
              · rw [if_pos c8] at H
                have c8b0 : decide ((rd l1 x12_1) < (l0.length : Int)) = true := decide_eq_true c8
                clear c8
                have HC9 := Aside0.mk H
                clear H
                have p218 : 0 ≤ (x12_1 : Int) := of_decide_eq_true (by first | (with_reducible assumption) | assumption)
                have q218 : x12_1 < (l1.length : Int) := of_decide_eq_true (by first | (with_reducible assumption) | assumption)
                obtain ⟨ad218, e218, hx218_0⟩ := Kd.at_int HR1.out x12_1 p218 q218
                cases e218
                replace hx218_0 := (HB.out.cell (World.block_lt_of_cell? w _ hx218_0)).trans hx218_0
                replace p218 := eq_true p218
                replace q218 := eq_true q218
                have p219 : 0 ≤ ((rd l1 x12_1) : Int) := of_decide_eq_true (by first | (with_reducible assumption) | assumption)
                have q219 : (rd l1 x12_1) < (l0.length : Int) := of_decide_eq_true (by first | (with_reducible assumption) | assumption)
                obtain ⟨ad219, e219, hx219_0, hx219_1, hx219_2, hx219_3⟩ := at_T28 HR0.out (rd l1 x12_1) p219 q219
                cases e219
                replace hx219_0 := (HB.out.cell (World.block_lt_of_cell? w _ hx219_0)).trans hx219_0
                replace hx219_1 := (HB.out.cell (World.block_lt_of_cell? w _ hx219_1)).trans hx219_1
                replace hx219_2 := (HB.out.cell (World.block_lt_of_cell? w _ hx219_2)).trans hx219_2
                replace hx219_3 := (HB.out.cell (World.block_lt_of_cell? w _ hx219_3)).trans hx219_3
                replace p219 := eq_true p219
                replace q219 := eq_true q219
                go_upto_region 5 with (first | ((with_reducible refine gate_dst (N := 9) rfl ?_); refine box_event ?hg (N := 9) ?hd (cs := #[.int .i64 0, .int .u64 0, .int .i64 0, .int .i64 0]) (t := 28) ?hr ?_; (case hd => rfl); (case hg => rfl); (case hr => first | (go_simp; done) | (go_simp; rfl)); intro gb220 hg w10 hbox hb; have n0_ := Aside0.mk (below_step (wb_ HB.out) hb); have n1_ := Aside0.mk (hbox); have n2_ := Aside0.mk ((by rw [hg]; exact (below_size (wb_ HB.out)) : w.heap.size ≤ gb220)); have n3_ := Aside0.mk ((by rw [hg]; exact (below_size (wb_ HB.out)) : w.heap.size ≤ gb220)); clear HB; have HB := n0_; have BK220 := n1_; have GW220 := n2_; have GE220 := n3_; clear n0_ n1_ n2_ n3_; clear hb hbox hg; have hcz11_0 : w10.cell? ⟨gb220, 0, none⟩ = some (.int .i64 0) := (blk_cell BK220.out 0).trans rfl; have hcz11_1 : w10.cell? ⟨gb220, 1, none⟩ = some (.int .u64 0) := (blk_cell BK220.out 1).trans rfl; have hcz11_2 : w10.cell? ⟨gb220, 2, none⟩ = some (.int .i64 0) := (blk_cell BK220.out 2).trans rfl; have hcz11_3 : w10.cell? ⟨gb220, 3, none⟩ = some (.int .i64 0) := (blk_cell BK220.out 3).trans rfl; have hfz11_0 := blk_frozen BK220.out 0; have hfz11_1 := blk_frozen BK220.out 1; have hfz11_2 := blk_frozen BK220.out 2; have hfz11_3 := blk_frozen BK220.out 3))
                (try simp only [Act.put, List.setIfInBounds_toArray, List.set_cons_zero, List.set_cons_succ])
                go_cut [34] (fun v34 wc => ∃ (kq : Nat) (x34_8 : Bool), v34 = .bool x34_8 ∧ Aside0 (demurralref21_held.j1 kq l0 l1 a2 l1 (l1.length : Int) x12_1 x34_8 ((rd_T28 l0 (rd l1 x12_1)).f0) ((rd_T28 l0 (rd l1 x12_1)).f1) ((rd_T28 l0 (rd l1 x12_1)).f2) ((rd_T28 l0 (rd l1 x12_1)).f3) = some r) ∧ Aside0 (kq ≤ k1) ∧ Aside0 (wc.heap[gb220]? = some (.cells #[.int .i64 ((rd_T28 l0 (rd l1 x12_1)).f0), .int .u64 ((rd_T28 l0 (rd l1 x12_1)).f1), .int .i64 ((rd_T28 l0 (rd l1 x12_1)).f2), .int .i64 ((rd_T28 l0 (rd l1 x12_1)).f3)] 28 (0, 0))) ∧ Aside0 (Below w.heap.size w wc))
                case first =>
                  have H := HC9.out
                  clear HC9
                  by_cases c12 : ((rd_T28 l0 (rd l1 x12_1)).f0) = 4
                  · rw [if_pos c12] at H
                    have c12b0 : (((rd_T28 l0 (rd l1 x12_1)).f0) == 4) = true := beq_iff_eq.mpr c12
                    have c12b1 : (((rd_T28 l0 (rd l1 x12_1)).f0) != 4) = false := bne_eq_false_iff_eq.mpr c12
                    clear c12
                    (first | rw [c12b0] | (simp only [i64_w, i32_w]; rw [c12b0]) | skip)
                    by_cases c13 : ((rd_T28 l0 (rd l1 x12_1)).f2) = a2
                    · rw [if_pos c13] at H
                      have c13b0 : (((rd_T28 l0 (rd l1 x12_1)).f2) == a2) = true := beq_iff_eq.mpr c13
                      have c13b1 : (((rd_T28 l0 (rd l1 x12_1)).f2) != a2) = false := bne_eq_false_iff_eq.mpr c13
                      clear c13
                      have H' := Aside0.mk H
                      clear H
                      have hcz14_0 : w10.cell? ⟨gb220, 0, none⟩ = some (.int .i64 0) := (blk_cell BK220.out 0).trans rfl
                      have hcz14_1 : w10.cell? ⟨gb220, 1, none⟩ = some (.int .u64 0) := (blk_cell BK220.out 1).trans rfl
                      have hcz14_2 : w10.cell? ⟨gb220, 2, none⟩ = some (.int .i64 0) := (blk_cell BK220.out 2).trans rfl
                      have hcz14_3 : w10.cell? ⟨gb220, 3, none⟩ = some (.int .i64 0) := (blk_cell BK220.out 3).trans rfl
                      have hfz14_0 := blk_frozen BK220.out 0
                      have hfz14_1 := blk_frozen BK220.out 1
                      have hfz14_2 := blk_frozen BK220.out 2
                      have hfz14_3 := blk_frozen BK220.out 3
                      go_wp2
                      go_meet
                      case rel => exact ⟨_, (true), (by first | rfl | (simp; done) | (simp [*]; done)), H', ⟨by have := HK1.out; first | omega | exact Nat.le_refl _⟩, ⟨by (with_reducible repeat (first | refine blk_drewN ?_ _ | refine blk_drew ?_ | refine blk_alloc ?_ _)); refine blk_put (cs := #[.int .i64 ((rd_T28 l0 (rd l1 x12_1)).f0), .int .u64 ((rd_T28 l0 (rd l1 x12_1)).f1), .int .i64 ((rd_T28 l0 (rd l1 x12_1)).f2), .int .i64 0]) ?_ 3 _ rfl; (with_reducible repeat (first | refine blk_drewN ?_ _ | refine blk_drew ?_ | refine blk_alloc ?_ _)); refine blk_put (cs := #[.int .i64 ((rd_T28 l0 (rd l1 x12_1)).f0), .int .u64 ((rd_T28 l0 (rd l1 x12_1)).f1), .int .i64 0, .int .i64 0]) ?_ 2 _ rfl; (with_reducible repeat (first | refine blk_drewN ?_ _ | refine blk_drew ?_ | refine blk_alloc ?_ _)); refine blk_put (cs := #[.int .i64 ((rd_T28 l0 (rd l1 x12_1)).f0), .int .u64 0, .int .i64 0, .int .i64 0]) ?_ 1 _ rfl; (with_reducible repeat (first | refine blk_drewN ?_ _ | refine blk_drew ?_ | refine blk_alloc ?_ _)); refine blk_put (cs := #[.int .i64 0, .int .u64 0, .int .i64 0, .int .i64 0]) ?_ 0 _ rfl; (with_reducible repeat (first | refine blk_drewN ?_ _ | refine blk_drew ?_ | refine blk_alloc ?_ _)); exact BK220.out⟩, ⟨by repeat (first | (with_reducible first | exact HB.out | apply below_alloc | apply pw_below_drewN | apply below_drew1 | refine below_set ?_ GE220.out) | exact HB.out)⟩⟩
                    · rw [if_neg c13] at H
                      have c13b0 : (((rd_T28 l0 (rd l1 x12_1)).f2) == a2) = false := beq_eq_false_iff_ne.mpr c13
                      have c13b1 : (((rd_T28 l0 (rd l1 x12_1)).f2) != a2) = true := bne_iff_ne.mpr c13
                      have H' := Aside0.mk H
                      clear H
                      have hcz15_0 : w10.cell? ⟨gb220, 0, none⟩ = some (.int .i64 0) := (blk_cell BK220.out 0).trans rfl
                      have hcz15_1 : w10.cell? ⟨gb220, 1, none⟩ = some (.int .u64 0) := (blk_cell BK220.out 1).trans rfl
                      have hcz15_2 : w10.cell? ⟨gb220, 2, none⟩ = some (.int .i64 0) := (blk_cell BK220.out 2).trans rfl
                      have hcz15_3 : w10.cell? ⟨gb220, 3, none⟩ = some (.int .i64 0) := (blk_cell BK220.out 3).trans rfl
                      have hfz15_0 := blk_frozen BK220.out 0
                      have hfz15_1 := blk_frozen BK220.out 1
                      have hfz15_2 := blk_frozen BK220.out 2
                      have hfz15_3 := blk_frozen BK220.out 3
                      go_wp2
                      go_meet
                      case rel => exact ⟨_, ((((rd_T28 l0 (rd l1 x12_1)).f3) == a2)), (by first | rfl | (simp; done) | (simp [*]; done)), H', ⟨by have := HK1.out; first | omega | exact Nat.le_refl _⟩, ⟨by (with_reducible repeat (first | refine blk_drewN ?_ _ | refine blk_drew ?_ | refine blk_alloc ?_ _)); refine blk_put (cs := #[.int .i64 ((rd_T28 l0 (rd l1 x12_1)).f0), .int .u64 ((rd_T28 l0 (rd l1 x12_1)).f1), .int .i64 ((rd_T28 l0 (rd l1 x12_1)).f2), .int .i64 0]) ?_ 3 _ rfl; (with_reducible repeat (first | refine blk_drewN ?_ _ | refine blk_drew ?_ | refine blk_alloc ?_ _)); refine blk_put (cs := #[.int .i64 ((rd_T28 l0 (rd l1 x12_1)).f0), .int .u64 ((rd_T28 l0 (rd l1 x12_1)).f1), .int .i64 0, .int .i64 0]) ?_ 2 _ rfl; (with_reducible repeat (first | refine blk_drewN ?_ _ | refine blk_drew ?_ | refine blk_alloc ?_ _)); refine blk_put (cs := #[.int .i64 ((rd_T28 l0 (rd l1 x12_1)).f0), .int .u64 0, .int .i64 0, .int .i64 0]) ?_ 1 _ rfl; (with_reducible repeat (first | refine blk_drewN ?_ _ | refine blk_drew ?_ | refine blk_alloc ?_ _)); refine blk_put (cs := #[.int .i64 0, .int .u64 0, .int .i64 0, .int .i64 0]) ?_ 0 _ rfl; (with_reducible repeat (first | refine blk_drewN ?_ _ | refine blk_drew ?_ | refine blk_alloc ?_ _)); exact BK220.out⟩, ⟨by repeat (first | (with_reducible first | exact HB.out | apply below_alloc | apply pw_below_drewN | apply below_drew1 | refine below_set ?_ GE220.out) | exact HB.out)⟩⟩
                  · rw [if_neg c12] at H
                    have c12b0 : (((rd_T28 l0 (rd l1 x12_1)).f0) == 4) = false := beq_eq_false_iff_ne.mpr c12
                    have c12b1 : (((rd_T28 l0 (rd l1 x12_1)).f0) != 4) = true := bne_iff_ne.mpr c12
                    (first | rw [c12b0] | (simp only [i64_w, i32_w]; rw [c12b0]) | skip)
                    have H' := Aside0.mk H
                    clear H
                    have hcz16_0 : w10.cell? ⟨gb220, 0, none⟩ = some (.int .i64 0) := (blk_cell BK220.out 0).trans rfl
                    have hcz16_1 : w10.cell? ⟨gb220, 1, none⟩ = some (.int .u64 0) := (blk_cell BK220.out 1).trans rfl
                    have hcz16_2 : w10.cell? ⟨gb220, 2, none⟩ = some (.int .i64 0) := (blk_cell BK220.out 2).trans rfl
                    have hcz16_3 : w10.cell? ⟨gb220, 3, none⟩ = some (.int .i64 0) := (blk_cell BK220.out 3).trans rfl
                    have hfz16_0 := blk_frozen BK220.out 0
                    have hfz16_1 := blk_frozen BK220.out 1
                    have hfz16_2 := blk_frozen BK220.out 2
                    have hfz16_3 := blk_frozen BK220.out 3
                    go_wp2
                    go_meet
                    case rel => exact ⟨_, (false), (by first | rfl | (simp; done) | (simp [*]; done)), H', ⟨by have := HK1.out; first | omega | exact Nat.le_refl _⟩, ⟨by (with_reducible repeat (first | refine blk_drewN ?_ _ | refine blk_drew ?_ | refine blk_alloc ?_ _)); refine blk_put (cs := #[.int .i64 ((rd_T28 l0 (rd l1 x12_1)).f0), .int .u64 ((rd_T28 l0 (rd l1 x12_1)).f1), .int .i64 ((rd_T28 l0 (rd l1 x12_1)).f2), .int .i64 0]) ?_ 3 _ rfl; (with_reducible repeat (first | refine blk_drewN ?_ _ | refine blk_drew ?_ | refine blk_alloc ?_ _)); refine blk_put (cs := #[.int .i64 ((rd_T28 l0 (rd l1 x12_1)).f0), .int .u64 ((rd_T28 l0 (rd l1 x12_1)).f1), .int .i64 0, .int .i64 0]) ?_ 2 _ rfl; (with_reducible repeat (first | refine blk_drewN ?_ _ | refine blk_drew ?_ | refine blk_alloc ?_ _)); refine blk_put (cs := #[.int .i64 ((rd_T28 l0 (rd l1 x12_1)).f0), .int .u64 0, .int .i64 0, .int .i64 0]) ?_ 1 _ rfl; (with_reducible repeat (first | refine blk_drewN ?_ _ | refine blk_drew ?_ | refine blk_alloc ?_ _)); refine blk_put (cs := #[.int .i64 0, .int .u64 0, .int .i64 0, .int .i64 0]) ?_ 0 _ rfl; (with_reducible repeat (first | refine blk_drewN ?_ _ | refine blk_drew ?_ | refine blk_alloc ?_ _)); exact BK220.out⟩, ⟨by repeat (first | (with_reducible first | exact HB.out | apply below_alloc | apply pw_below_drewN | apply below_drew1 | refine below_set ?_ GE220.out) | exact HB.out)⟩⟩
                case rest =>
                  clear HC9
                  try clear c1
                  try clear p2
                  try clear q2
                  try clear hx2
                  try clear c4
                  try clear c4b0
                  try clear c5
                  try clear c5b0
                  try clear c6
                  try clear c6b0
                  try clear c7
                  try clear c7b0
                  try clear c8
                  try clear c8b0
                  try clear c12
                  try clear c12b0
                  try clear c12b1
                  try clear c13
                  try clear c13b0
                  try clear c13b1
                  try clear hcz11_0
                  try clear hcz11_1
                  try clear hcz11_2
                  try clear hcz11_3
                  try clear hcz14_0
                  try clear hcz14_1
                  try clear hcz14_2
                  try clear hcz14_3
                  try clear hcz15_0
                  try clear hcz15_1
                  try clear hcz15_2
                  try clear hcz15_3
                  try clear hcz16_0
                  try clear hcz16_1
                  try clear hcz16_2
                  try clear hcz16_3
                  try clear hfz11_0
                  try clear hfz11_1
                  try clear hfz11_2
                  try clear hfz11_3
                  try clear hfz14_0
                  try clear hfz14_1
                  try clear hfz14_2
                  try clear hfz14_3
                  try clear hfz15_0
                  try clear hfz15_1
                  try clear hfz15_2
                  try clear hfz15_3
                  try clear hfz16_0
                  try clear hfz16_1
                  try clear hfz16_2
                  try clear hfz16_3
                  try clear hx218_0
                  try clear hx219_0
                  try clear hx219_1
                  try clear hx219_2
                  try clear hx219_3
                  try clear p2
                  try clear p218
                  try clear p219
                  try clear q218
                  try clear q219
                  obtain ⟨kq, x34_8, rfl, HA, HJ8, BK220, HB⟩ := hcut
                  cases kq with
                  | zero => exact absurd HA.out (by simp [demurralref21_held.j1])
                  | succ kj8 =>
                    have H := HA.out
                    clear HA
                    simp only [demurralref21_held.j1] at H
                    by_cases c17 : x34_8 = true
                    · subst c17
                      have H1 : (some true) = some r := by rw [if_pos rfl] at H; exact H
                      clear H
                      have H := H1
                      clear H1
                      obtain rfl := Option.some.inj H
                      go_wp2
                      go_ret
                      exact ⟨by first | rfl | (simp [errW_none, errW_some] <;> rfl) | (simp [*, errW_none, errW_some] <;> rfl), by repeat (first | (with_reducible first | exact HB.out | apply below_alloc | apply pw_below_drewN | apply below_drew1 | refine below_set ?_ GE220.out) | exact HB.out)⟩
                    · replace c17 := Bool.eq_false_iff.mpr c17
                      subst c17
                      have H1 : (if ((rd_T28 l0 (rd l1 x12_1)).f0) = 5 then (if ((rd_T28 l0 (rd l1 x12_1)).f3) = a2 then ((demurralref20_In.f kj8 l1 ((rd_T28 l0 (rd l1 x12_1)).f2)).bind fun t221 => (if t221 = true then (some true) else (demurralref21_held.l0 kj8 l0 l1 a2 l1 (l1.length : Int) (wrap64 (x12_1 + 1))))) else (demurralref21_held.l0 kj8 l0 l1 a2 l1 (l1.length : Int) (wrap64 (x12_1 + 1)))) else (demurralref21_held.l0 kj8 l0 l1 a2 l1 (l1.length : Int) (wrap64 (x12_1 + 1)))) = some r := by rw [if_neg (show ¬ (false = true) by decide)] at H; exact H
                      clear H
                      have H := H1
                      clear H1
                      by_cases c18 : ((rd_T28 l0 (rd l1 x12_1)).f0) = 5
                      · rw [if_pos c18] at H
                        have c18b0 : (((rd_T28 l0 (rd l1 x12_1)).f0) == 5) = true := beq_iff_eq.mpr c18
                        have c18b1 : (((rd_T28 l0 (rd l1 x12_1)).f0) != 5) = false := bne_eq_false_iff_eq.mpr c18
                        clear c18
                        by_cases c19 : ((rd_T28 l0 (rd l1 x12_1)).f3) = a2
                        · rw [if_pos c19] at H
                          have c19b0 : (((rd_T28 l0 (rd l1 x12_1)).f3) == a2) = true := beq_iff_eq.mpr c19
                          have c19b1 : (((rd_T28 l0 (rd l1 x12_1)).f3) != a2) = false := bne_eq_false_iff_eq.mpr c19
                          clear c19
                          replace H := Option.bind_eq_some_iff.mp H
                          obtain ⟨t221, A200, H⟩ := H
                          replace H : (if t221 = true then (some true) else (demurralref21_held.l0 kj8 l0 l1 a2 l1 (l1.length : Int) (wrap64 (x12_1 + 1)))) = some r := H
                          have A20 := Aside0.mk A200
                          clear A200
                          by_cases c21 : t221 = true
                          · subst c21
                            have H1 : (some true) = some r := by rw [if_pos rfl] at H; exact H
                            clear H
                            have H := H1
                            clear H1
                            obtain rfl := Option.some.inj H
                            have hcz22_0 : wc.cell? ⟨gb220, 0, none⟩ = some (.int .i64 ((rd_T28 l0 (rd l1 x12_1)).f0)) := (blk_cell BK220.out 0).trans rfl
                            have hcz22_1 : wc.cell? ⟨gb220, 1, none⟩ = some (.int .u64 ((rd_T28 l0 (rd l1 x12_1)).f1)) := (blk_cell BK220.out 1).trans rfl
                            have hcz22_2 : wc.cell? ⟨gb220, 2, none⟩ = some (.int .i64 ((rd_T28 l0 (rd l1 x12_1)).f2)) := (blk_cell BK220.out 2).trans rfl
                            have hcz22_3 : wc.cell? ⟨gb220, 3, none⟩ = some (.int .i64 ((rd_T28 l0 (rd l1 x12_1)).f3)) := (blk_cell BK220.out 3).trans rfl
                            have hfz22_0 := blk_frozen BK220.out 0
                            have hfz22_1 := blk_frozen BK220.out 1
                            have hfz22_2 := blk_frozen BK220.out 2
                            have hfz22_3 := blk_frozen BK220.out 3
                            go_wp2_with (first | (go_at_call 31; (with_reducible refine (demurralref20_In.calls kj8 _ _ l1 ((rd_T28 l0 (rd l1 x12_1)).f2) true _ ?side1 ?side2 A20.out).mono ?_); (case side1 => repeat (first | exact (Kd.C_below HR1.out HB.out) | (with_reducible refine Kd.C_alloc ?_ _) | (with_reducible refine Kd.C_drewN ?_ _) | (with_reducible refine Kd.C_drew ?_))); (case side2 => exact HC1.out); rintro e w' ⟨rfl, ⟨nd, rfl⟩⟩))
                            go_ret
                            exact ⟨by first | rfl | (simp [errW_none, errW_some] <;> rfl) | (simp [*, errW_none, errW_some] <;> rfl), by repeat (first | (with_reducible first | exact HB.out | apply below_alloc | apply pw_below_drewN | apply below_drew1 | refine below_set ?_ GE220.out) | exact HB.out)⟩
                          · replace c21 := Bool.eq_false_iff.mpr c21
                            subst c21
                            have H1 : (demurralref21_held.l0 kj8 l0 l1 a2 l1 (l1.length : Int) (wrap64 (x12_1 + 1))) = some r := by rw [if_neg (show ¬ (false = true) by decide)] at H; exact H
                            clear H
                            have H := H1
                            clear H1
                            have H' := Aside0.mk H
                            clear H
                            have hcz23_0 : wc.cell? ⟨gb220, 0, none⟩ = some (.int .i64 ((rd_T28 l0 (rd l1 x12_1)).f0)) := (blk_cell BK220.out 0).trans rfl
                            have hcz23_1 : wc.cell? ⟨gb220, 1, none⟩ = some (.int .u64 ((rd_T28 l0 (rd l1 x12_1)).f1)) := (blk_cell BK220.out 1).trans rfl
                            have hcz23_2 : wc.cell? ⟨gb220, 2, none⟩ = some (.int .i64 ((rd_T28 l0 (rd l1 x12_1)).f2)) := (blk_cell BK220.out 2).trans rfl
                            have hcz23_3 : wc.cell? ⟨gb220, 3, none⟩ = some (.int .i64 ((rd_T28 l0 (rd l1 x12_1)).f3)) := (blk_cell BK220.out 3).trans rfl
                            have hfz23_0 := blk_frozen BK220.out 0
                            have hfz23_1 := blk_frozen BK220.out 1
                            have hfz23_2 := blk_frozen BK220.out 2
                            have hfz23_3 := blk_frozen BK220.out 3
                            go_wp2_with (first | (go_at_call 31; (with_reducible refine (demurralref20_In.calls kj8 _ _ l1 ((rd_T28 l0 (rd l1 x12_1)).f2) false _ ?side1 ?side2 A20.out).mono ?_); (case side1 => repeat (first | exact (Kd.C_below HR1.out HB.out) | (with_reducible refine Kd.C_alloc ?_ _) | (with_reducible refine Kd.C_drewN ?_ _) | (with_reducible refine Kd.C_drew ?_))); (case side2 => exact HC1.out); rintro e w' ⟨rfl, ⟨nd, rfl⟩⟩))
                            go_roundg kj8
                            case measure => have := HK1.out; have := HJ8.out; omega
                            case rel => exact ⟨(wrap64 (x12_1 + 1)), (by first | rfl | (simp; done) | (simp [*]; done)), H', ⟨by have := HK1.out; have := HJ8.out; omega⟩, ⟨by repeat (first | (with_reducible first | exact HB.out | apply below_alloc | apply pw_below_drewN | apply below_drew1 | refine below_set ?_ GE220.out) | exact HB.out)⟩⟩
                        · rw [if_neg c19] at H
                          have c19b0 : (((rd_T28 l0 (rd l1 x12_1)).f3) == a2) = false := beq_eq_false_iff_ne.mpr c19
                          have c19b1 : (((rd_T28 l0 (rd l1 x12_1)).f3) != a2) = true := bne_iff_ne.mpr c19
                          have H' := Aside0.mk H
                          clear H
                          have hcz24_0 : wc.cell? ⟨gb220, 0, none⟩ = some (.int .i64 ((rd_T28 l0 (rd l1 x12_1)).f0)) := (blk_cell BK220.out 0).trans rfl
                          have hcz24_1 : wc.cell? ⟨gb220, 1, none⟩ = some (.int .u64 ((rd_T28 l0 (rd l1 x12_1)).f1)) := (blk_cell BK220.out 1).trans rfl
                          have hcz24_2 : wc.cell? ⟨gb220, 2, none⟩ = some (.int .i64 ((rd_T28 l0 (rd l1 x12_1)).f2)) := (blk_cell BK220.out 2).trans rfl
                          have hcz24_3 : wc.cell? ⟨gb220, 3, none⟩ = some (.int .i64 ((rd_T28 l0 (rd l1 x12_1)).f3)) := (blk_cell BK220.out 3).trans rfl
                          have hfz24_0 := blk_frozen BK220.out 0
                          have hfz24_1 := blk_frozen BK220.out 1
                          have hfz24_2 := blk_frozen BK220.out 2
                          have hfz24_3 := blk_frozen BK220.out 3
                          go_wp2
                          go_roundg kj8
                          case measure => have := HK1.out; have := HJ8.out; omega
                          case rel => exact ⟨(wrap64 (x12_1 + 1)), (by first | rfl | (simp; done) | (simp [*]; done)), H', ⟨by have := HK1.out; have := HJ8.out; omega⟩, ⟨by repeat (first | (with_reducible first | exact HB.out | apply below_alloc | apply pw_below_drewN | apply below_drew1 | refine below_set ?_ GE220.out) | exact HB.out)⟩⟩
                      · rw [if_neg c18] at H
                        have c18b0 : (((rd_T28 l0 (rd l1 x12_1)).f0) == 5) = false := beq_eq_false_iff_ne.mpr c18
                        have c18b1 : (((rd_T28 l0 (rd l1 x12_1)).f0) != 5) = true := bne_iff_ne.mpr c18
                        have H' := Aside0.mk H
                        clear H
                        have hcz25_0 : wc.cell? ⟨gb220, 0, none⟩ = some (.int .i64 ((rd_T28 l0 (rd l1 x12_1)).f0)) := (blk_cell BK220.out 0).trans rfl
                        have hcz25_1 : wc.cell? ⟨gb220, 1, none⟩ = some (.int .u64 ((rd_T28 l0 (rd l1 x12_1)).f1)) := (blk_cell BK220.out 1).trans rfl
                        have hcz25_2 : wc.cell? ⟨gb220, 2, none⟩ = some (.int .i64 ((rd_T28 l0 (rd l1 x12_1)).f2)) := (blk_cell BK220.out 2).trans rfl
                        have hcz25_3 : wc.cell? ⟨gb220, 3, none⟩ = some (.int .i64 ((rd_T28 l0 (rd l1 x12_1)).f3)) := (blk_cell BK220.out 3).trans rfl
                        have hfz25_0 := blk_frozen BK220.out 0
                        have hfz25_1 := blk_frozen BK220.out 1
                        have hfz25_2 := blk_frozen BK220.out 2
                        have hfz25_3 := blk_frozen BK220.out 3
                        go_wp2
                        go_roundg kj8
                        case measure => have := HK1.out; have := HJ8.out; omega
                        case rel => exact ⟨(wrap64 (x12_1 + 1)), (by first | rfl | (simp; done) | (simp [*]; done)), H', ⟨by have := HK1.out; have := HJ8.out; omega⟩, ⟨by repeat (first | (with_reducible first | exact HB.out | apply below_alloc | apply pw_below_drewN | apply below_drew1 | refine below_set ?_ GE220.out) | exact HB.out)⟩⟩
              · rw [if_neg c8] at H
                exact absurd H (by simp)
            · rw [if_neg c7] at H
              exact absurd H (by simp)
          · rw [if_neg c6] at H
            exact absurd H (by simp)
        · rw [if_neg c5] at H
          exact absurd H (by simp)
      · rw [if_neg c4] at H
        have c4b0 : decide (x12_1 < (l1.length : Int)) = false := decide_eq_false c4
        clear c4
        obtain rfl := Option.some.inj H
        go_wp2
        go_ret
        exact ⟨by first | rfl | (simp [errW_none, errW_some] <;> rfl) | (simp [*, errW_none, errW_some] <;> rfl), by repeat (first | (with_reducible first | exact HB.out | apply below_alloc | apply pw_below_drewN | apply below_drew1) | exact HB.out)⟩

end Go.Proofs.Ytenmmeehgnkcpaa.Q
