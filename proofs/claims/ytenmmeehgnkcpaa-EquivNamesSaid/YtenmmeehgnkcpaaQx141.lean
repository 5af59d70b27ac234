-- PRINTED by print.py (a twelfth state) out of the translation. Not trusted: Lean checks it.
import Derived.Test.YtenmmeehgnkcpaaHStep
import Derived.Test.YtenmmeehgnkcpaaQx0
import Derived.Test.YtenmmeehgnkcpaaQx1028
namespace Go.Proofs.Ytenmmeehgnkcpaa.Q
open Go.RowKit Go.Proofs.YtenmmeehgnkcpaaW.PrintWords Go.Proofs.YtenmmeehgnkcpaaW.PrintLast Go.Proofs.YtenmmeehgnkcpaaW.PrintMore
attribute [local go_sem] max2_int min2_int max_two min_two max_three min_three max_four min_four   -- for this text's walks alone
set_option linter.unusedVariables false
set_option linter.unusedSimpArgs false

attribute [local go_sem high] eqA28
/-! ### demurrallaw22_place: function 41 -/
def demurrallaw22_place.l0 : Nat → List (S28) → Int → Int → Int → Int → Int → Int → Option (Int)
  | 0, _, _, _, _, _, _, _ => none
  | k + 1, x7, x8, x9, x485000, x485001, x485002, x485003 => if x9 < x8 then (if 0 ≤ x9 then (if x9 < (x7.length : Int) then (if (((rd_T28 x7 x9).f0) == x485000 && (((rd_T28 x7 x9).f1) == x485001 && (((rd_T28 x7 x9).f2) == x485002 && (((rd_T28 x7 x9).f3) == x485003)))) = true then (some x9) else (demurrallaw22_place.l0 k x7 x8 (wrap64 (x9 + 1)) x485000 x485001 x485002 x485003)) else (none)) else (none)) else (some (-1))
def demurrallaw22_place.f (k : Nat) (l0 : List (S28)) (a1_0 : Int) (a1_1 : Int) (a1_2 : Int) (a1_3 : Int) : Option (Int) := demurrallaw22_place.l0 k l0 (l0.length : Int) 0 a1_0 a1_1 a1_2 a1_3
theorem demurrallaw22_place.mono_l : ∀ k, (∀ y0 y1 y2 y3 y4 y5 y6, LeO (demurrallaw22_place.l0 k y0 y1 y2 y3 y4 y5 y6) (demurrallaw22_place.l0 (k + 1) y0 y1 y2 y3 y4 y5 y6))
  | 0 => fun _ _ _ _ _ _ _ r h => by simp [demurrallaw22_place.l0] at h
  | k + 1 => by
    have ih0 := demurrallaw22_place.mono_l k
    · intro y0 y1 y2 y3 y4 y5 y6
      unfold demurrallaw22_place.l0
      repeat' first
      | (with_reducible exact ih0 _ _ _ _ _ _ _)
      | (with_reducible exact LeO.refl _)
      | (with_reducible exact LeO.none _)
      | (with_reducible refine LeO.ite ?_ ?_)
      | (with_reducible refine LeO.bind ?_ (fun _ => ?_))
      | exact ih0 _ _ _ _ _ _ _
      | exact LeO.none _
      | refine LeO.ite ?_ ?_
      | refine LeO.bind ?_ (fun _ => ?_)
theorem demurrallaw22_place.mono : ∀ a0 a1 a2 a3 a4 k, LeO (demurrallaw22_place.f k a0 a1 a2 a3 a4) (demurrallaw22_place.f (k + 1) a0 a1 a2 a3 a4) := by
  intro a0 a1 a2 a3 a4 k
  have ih0 := demurrallaw22_place.mono_l k
  unfold demurrallaw22_place.f
  repeat' first
      | (with_reducible exact ih0 _ _ _ _ _ _ _)
      | (with_reducible exact LeO.refl _)
      | (with_reducible exact LeO.none _)
      | (with_reducible refine LeO.ite ?_ ?_)
      | (with_reducible refine LeO.bind ?_ (fun _ => ?_))
      | exact ih0 _ _ _ _ _ _ _
      | exact LeO.none _
      | refine LeO.ite ?_ ?_
      | refine LeO.bind ?_ (fun _ => ?_)
set_option maxHeartbeats 8000000 in
set_option maxRecDepth 100000 in
theorem demurrallaw22_place.calls (k : Nat) (A0 : Option Addr) (c0 : Nat) (l0 : List (S28)) (a1_0 : Int) (a1_1 : Int) (a1_2 : Int) (a1_3 : Int) (r : Int) (w : World) (hr0 : Kd.C k28 w A0 l0.length l0) (hc0 : l0.length ≤ c0) (h : demurrallaw22_place.f k l0 a1_0 a1_1 a1_2 a1_3 = some r) :
    Calls Try.prog 41 #[.slice A0 l0.length c0, .agg #[.int .i64 a1_0, .int .u64 a1_1, .int .i64 a1_2, .int .i64 a1_3]] w fun e w' => e = .returned (.int .i64 r) ∧ Below w.heap.size w w' := by
  have hu28 := Try.underlying28
  have HR0 := Aside0.mk hr0
  have HC0 := Aside0.mk hc0
  clear hr0 hc0
  have HB := Aside0.mk (Below.refl w.heap.size w)
  have H : (demurrallaw22_place.l0 k l0 (l0.length : Int) 0 a1_0 a1_1 a1_2 a1_3) = some r := h
  clear h
  have H' := Aside0.mk H
  clear H
  go_enter Try.func41, Try.ntmps41
  go_wp2_with (first | ((with_reducible refine gate_dst (N := 3) rfl ?_); refine box_event ?hg (N := 3) ?hd (cs := #[.int .i64 a1_0, .int .u64 a1_1, .int .i64 a1_2, .int .i64 a1_3]) (t := 28) ?hr ?_; (case hd => rfl); (case hg => rfl); (case hr => first | (go_simp; done) | (go_simp; rfl)); intro gb484 hg w3 hbox hb; have n0_ := Aside0.mk (below_step (wb_ HB.out) hb); have n1_ := Aside0.mk (hbox); have n2_ := Aside0.mk ((by rw [hg]; exact (below_size (wb_ HB.out)) : w.heap.size ≤ gb484)); have n3_ := Aside0.mk ((by rw [hg]; exact (below_size (wb_ HB.out)) : w.heap.size ≤ gb484)); clear HB; have HB := n0_; have BK484 := n1_; have GW484 := n2_; have GE484 := n3_; clear n0_ n1_ n2_ n3_; clear hb hbox hg))
  go_loopg [9] k (fun kq v9 w' => ∃ (x9_1 : Int), v9 = .int .i64 x9_1 ∧ Aside0 (demurrallaw22_place.l0 kq l0 (l0.length : Int) x9_1 a1_0 a1_1 a1_2 a1_3 = some r) ∧ Aside0 (kq ≤ k) ∧ Aside0 (w'.heap[gb484]? = some (.cells #[.int .i64 a1_0, .int .u64 a1_1, .int .i64 a1_2, .int .i64 a1_3] 28 (0, 0))) ∧ Aside0 (Below w.heap.size w w'))
  case atStart => exact ⟨(0), (by first | rfl | (simp; done) | (simp [*]; done)), H', ⟨Nat.le_refl _⟩, ⟨by (with_reducible repeat (first | refine blk_drewN ?_ _ | refine blk_drew ?_ | refine blk_alloc ?_ _)); exact BK484.out⟩, ⟨by repeat (first | (with_reducible first | exact HB.out | apply below_alloc | apply pw_below_drewN | apply below_drew1 | refine below_set ?_ GE484.out) | exact HB.out)⟩⟩
  case round =>
    clear H'
    try clear p2
    obtain ⟨x9_1, rfl, HA, HK1, BK484, HB⟩ := hrel
    cases gk with
    | zero => exact absurd HA.out (by simp [demurrallaw22_place.l0])
    | succ k1 =>
      have H := HA.out
      clear HA
      simp only [demurrallaw22_place.l0] at H
      by_cases c4 : x9_1 < (l0.length : Int)
      · rw [if_pos c4] at H
        have c4b0 : decide (x9_1 < (l0.length : Int)) = true := decide_eq_true c4
        clear c4
        by_cases c5 : 0 ≤ x9_1
        · rw [if_pos c5] at H
          have c5b0 : decide (0 ≤ x9_1) = true := decide_eq_true c5
          clear c5
          by_cases c6 : x9_1 < (l0.length : Int)
          · rw [if_pos c6] at H
            have c6b0 : decide (x9_1 < (l0.length : Int)) = true := decide_eq_true c6
            clear c6
            by_cases c7 : (((rd_T28 l0 x9_1).f0) == a1_0 && (((rd_T28 l0 x9_1).f1) == a1_1 && (((rd_T28 l0 x9_1).f2) == a1_2 && (((rd_T28 l0 x9_1).f3) == a1_3)))) = true
            · rw [if_pos c7] at H
              have c7b0 : (((rd_T28 l0 x9_1).f0) == a1_0 && (((rd_T28 l0 x9_1).f1) == a1_1 && (((rd_T28 l0 x9_1).f2) == a1_2 && (((rd_T28 l0 x9_1).f3) == a1_3)))) = true := c7
              (try (have c7b1 : decide (((rd_T28 l0 x9_1).f0) = a1_0 && (((rd_T28 l0 x9_1).f1) == a1_1 && (((rd_T28 l0 x9_1).f2) == a1_2 && (((rd_T28 l0 x9_1).f3) == a1_3)))) = true := by simpa using c7))
              (try (have c7b2 : (((rd_T28 l0 x9_1).f0) == a1_0 && (((rd_T28 l0 x9_1).f1) == a1_1 && (((rd_T28 l0 x9_1).f2) == a1_2 && (((rd_T28 l0 x9_1).f3) == a1_3)))) = true := by simpa using c7))
              clear c7
              obtain rfl := Option.some.inj H
              have p485 : 0 ≤ (x9_1 : Int) := of_decide_eq_true (by first | (with_reducible assumption) | assumption)
              have q485 : x9_1 < (l0.length : Int) := of_decide_eq_true (by first | (with_reducible assumption) | assumption)
              obtain ⟨ad485, e485, hx485_0, hx485_1, hx485_2, hx485_3⟩ := at_T28 HR0.out x9_1 p485 q485
              cases e485
              replace hx485_0 := (HB.out.cell (World.block_lt_of_cell? w _ hx485_0)).trans hx485_0
              replace hx485_1 := (HB.out.cell (World.block_lt_of_cell? w _ hx485_1)).trans hx485_1
              replace hx485_2 := (HB.out.cell (World.block_lt_of_cell? w _ hx485_2)).trans hx485_2
              replace hx485_3 := (HB.out.cell (World.block_lt_of_cell? w _ hx485_3)).trans hx485_3
              replace p485 := eq_true p485
              replace q485 := eq_true q485
              go_wp2_with (first | ((with_reducible refine gate_dst (N := 6) rfl ?_); refine box_event ?hg (N := 6) ?hd (cs := #[.int .i64 0, .int .u64 0, .int .i64 0, .int .i64 0]) (t := 28) ?hr ?_; (case hd => rfl); (case hg => rfl); (case hr => first | (go_simp; done) | (go_simp; rfl)); intro gb486 hg w8 hbox hb; have n0_ := Aside0.mk (blk_below (g := gb484) (o := .cells #[.int .i64 a1_0, .int .u64 a1_1, .int .i64 a1_2, .int .i64 a1_3] 28 (0, 0)) (vb_ BK484.out) hb); have n1_ := Aside0.mk (below_step (by repeat (first | (with_reducible first | exact HB.out | apply below_alloc | apply pw_below_drewN | apply below_drew1 | refine below_set ?_ GE484.out) | exact HB.out)) hb); have n2_ := Aside0.mk (hbox); have n3_ := Aside0.mk ((by rw [hg]; exact (below_size (by repeat (first | (with_reducible first | exact HB.out | apply below_alloc | apply pw_below_drewN | apply below_drew1 | refine below_set ?_ GE484.out) | exact HB.out))) : w.heap.size ≤ gb486)); have n4_ := Aside0.mk ((by rw [hg]; exact (below_size (by repeat (first | (with_reducible first | exact HB.out | apply below_alloc | apply pw_below_drewN | apply below_drew1 | refine below_set ?_ GE484.out) | exact HB.out))) : w.heap.size ≤ gb486)); have n5_ := Aside0.mk ((by rw [hg]; exact Nat.ne_of_lt (blk_lt (g := gb484) (o := .cells #[.int .i64 a1_0, .int .u64 a1_1, .int .i64 a1_2, .int .i64 a1_3] 28 (0, 0)) (vb_ BK484.out)) : gb484 ≠ gb486)); have n6_ := Aside0.mk ((by rw [hg]; exact Nat.ne_of_gt (blk_lt (g := gb484) (o := .cells #[.int .i64 a1_0, .int .u64 a1_1, .int .i64 a1_2, .int .i64 a1_3] 28 (0, 0)) (vb_ BK484.out)) : gb486 ≠ gb484)); clear BK484; clear HB; have BK484 := n0_; have HB := n1_; have BK486 := n2_; have GW486 := n3_; have GE486 := n4_; have NB484_486 := n5_; have NB486_484 := n6_; clear n0_ n1_ n2_ n3_ n4_ n5_ n6_; clear hb hbox hg; have hnb9 := NB486_484.out; have hnc9 := NB484_486.out; have hcz10_0 : w8.cell? ⟨gb486, 0, none⟩ = some (.int .i64 0) := (blk_cell BK486.out 0).trans rfl; have hcz10_1 : w8.cell? ⟨gb486, 1, none⟩ = some (.int .u64 0) := (blk_cell BK486.out 1).trans rfl; have hcz10_2 : w8.cell? ⟨gb486, 2, none⟩ = some (.int .i64 0) := (blk_cell BK486.out 2).trans rfl; have hcz10_3 : w8.cell? ⟨gb486, 3, none⟩ = some (.int .i64 0) := (blk_cell BK486.out 3).trans rfl; have hfz10_0 := blk_frozen BK486.out 0; have hfz10_1 := blk_frozen BK486.out 1; have hfz10_2 := blk_frozen BK486.out 2; have hfz10_3 := blk_frozen BK486.out 3; have hcz11_0 : w8.cell? ⟨gb484, 0, none⟩ = some (.int .i64 a1_0) := (blk_cell BK484.out 0).trans rfl; have hcz11_1 : w8.cell? ⟨gb484, 1, none⟩ = some (.int .u64 a1_1) := (blk_cell BK484.out 1).trans rfl; have hcz11_2 : w8.cell? ⟨gb484, 2, none⟩ = some (.int .i64 a1_2) := (blk_cell BK484.out 2).trans rfl; have hcz11_3 : w8.cell? ⟨gb484, 3, none⟩ = some (.int .i64 a1_3) := (blk_cell BK484.out 3).trans rfl; have hfz11_0 := blk_frozen BK484.out 0; have hfz11_1 := blk_frozen BK484.out 1; have hfz11_2 := blk_frozen BK484.out 2; have hfz11_3 := blk_frozen BK484.out 3))
              go_ret
              exact ⟨by first | rfl | (simp [errW_none, errW_some] <;> rfl) | (simp [*, errW_none, errW_some] <;> rfl), by repeat (first | (with_reducible first | exact HB.out | apply below_alloc | apply pw_below_drewN | apply below_drew1 | refine below_set ?_ GE484.out | refine below_set ?_ GE486.out) | exact HB.out)⟩
            · rw [if_neg c7] at H
              have c7b0 : (((rd_T28 l0 x9_1).f0) == a1_0 && (((rd_T28 l0 x9_1).f1) == a1_1 && (((rd_T28 l0 x9_1).f2) == a1_2 && (((rd_T28 l0 x9_1).f3) == a1_3)))) = false := by simpa using c7
              (try (have c7b1 : decide (((rd_T28 l0 x9_1).f0) = a1_0 && (((rd_T28 l0 x9_1).f1) == a1_1 && (((rd_T28 l0 x9_1).f2) == a1_2 && (((rd_T28 l0 x9_1).f3) == a1_3)))) = false := by simpa using c7))
              (try (have c7b2 : (((rd_T28 l0 x9_1).f0) == a1_0 && (((rd_T28 l0 x9_1).f1) == a1_1 && (((rd_T28 l0 x9_1).f2) == a1_2 && (((rd_T28 l0 x9_1).f3) == a1_3)))) = false := by simpa using c7))
              (try (have c7b3 : ¬ (((rd_T28 l0 x9_1).f0) = a1_0 && (((rd_T28 l0 x9_1).f1) == a1_1 && (((rd_T28 l0 x9_1).f2) == a1_2 && (((rd_T28 l0 x9_1).f3) == a1_3)))) := by simpa using c7))
              clear c7
              have H' := Aside0.mk H
              clear H
              have p485 : 0 ≤ (x9_1 : Int) := of_decide_eq_true (by first | (with_reducible assumption) | assumption)
              have q485 : x9_1 < (l0.length : Int) := of_decide_eq_true (by first | (with_reducible assumption) | assumption)
              obtain ⟨ad485, e485, hx485_0, hx485_1, hx485_2, hx485_3⟩ := at_T28 HR0.out x9_1 p485 q485
              cases e485
              replace hx485_0 := (HB.out.cell (World.block_lt_of_cell? w _ hx485_0)).trans hx485_0
              replace hx485_1 := (HB.out.cell (World.block_lt_of_cell? w _ hx485_1)).trans hx485_1
              replace hx485_2 := (HB.out.cell (World.block_lt_of_cell? w _ hx485_2)).trans hx485_2
              replace hx485_3 := (HB.out.cell (World.block_lt_of_cell? w _ hx485_3)).trans hx485_3
              replace p485 := eq_true p485
              replace q485 := eq_true q485
              go_wp2_with (first | ((with_reducible refine gate_dst (N := 6) rfl ?_); refine box_event ?hg (N := 6) ?hd (cs := #[.int .i64 0, .int .u64 0, .int .i64 0, .int .i64 0]) (t := 28) ?hr ?_; (case hd => rfl); (case hg => rfl); (case hr => first | (go_simp; done) | (go_simp; rfl)); intro gb486 hg w12 hbox hb; have n0_ := Aside0.mk (blk_below (g := gb484) (o := .cells #[.int .i64 a1_0, .int .u64 a1_1, .int .i64 a1_2, .int .i64 a1_3] 28 (0, 0)) (vb_ BK484.out) hb); have n1_ := Aside0.mk (below_step (by repeat (first | (with_reducible first | exact HB.out | apply below_alloc | apply pw_below_drewN | apply below_drew1 | refine below_set ?_ GE484.out) | exact HB.out)) hb); have n2_ := Aside0.mk (hbox); have n3_ := Aside0.mk ((by rw [hg]; exact (below_size (by repeat (first | (with_reducible first | exact HB.out | apply below_alloc | apply pw_below_drewN | apply below_drew1 | refine below_set ?_ GE484.out) | exact HB.out))) : w.heap.size ≤ gb486)); have n4_ := Aside0.mk ((by rw [hg]; exact (below_size (by repeat (first | (with_reducible first | exact HB.out | apply below_alloc | apply pw_below_drewN | apply below_drew1 | refine below_set ?_ GE484.out) | exact HB.out))) : w.heap.size ≤ gb486)); have n5_ := Aside0.mk ((by rw [hg]; exact Nat.ne_of_lt (blk_lt (g := gb484) (o := .cells #[.int .i64 a1_0, .int .u64 a1_1, .int .i64 a1_2, .int .i64 a1_3] 28 (0, 0)) (vb_ BK484.out)) : gb484 ≠ gb486)); have n6_ := Aside0.mk ((by rw [hg]; exact Nat.ne_of_gt (blk_lt (g := gb484) (o := .cells #[.int .i64 a1_0, .int .u64 a1_1, .int .i64 a1_2, .int .i64 a1_3] 28 (0, 0)) (vb_ BK484.out)) : gb486 ≠ gb484)); clear BK484; clear HB; have BK484 := n0_; have HB := n1_; have BK486 := n2_; have GW486 := n3_; have GE486 := n4_; have NB484_486 := n5_; have NB486_484 := n6_; clear n0_ n1_ n2_ n3_ n4_ n5_ n6_; clear hb hbox hg; have hnb13 := NB486_484.out; have hnc13 := NB484_486.out; have hcz14_0 : w12.cell? ⟨gb486, 0, none⟩ = some (.int .i64 0) := (blk_cell BK486.out 0).trans rfl; have hcz14_1 : w12.cell? ⟨gb486, 1, none⟩ = some (.int .u64 0) := (blk_cell BK486.out 1).trans rfl; have hcz14_2 : w12.cell? ⟨gb486, 2, none⟩ = some (.int .i64 0) := (blk_cell BK486.out 2).trans rfl; have hcz14_3 : w12.cell? ⟨gb486, 3, none⟩ = some (.int .i64 0) := (blk_cell BK486.out 3).trans rfl; have hfz14_0 := blk_frozen BK486.out 0; have hfz14_1 := blk_frozen BK486.out 1; have hfz14_2 := blk_frozen BK486.out 2; have hfz14_3 := blk_frozen BK486.out 3; have hcz15_0 : w12.cell? ⟨gb484, 0, none⟩ = some (.int .i64 a1_0) := (blk_cell BK484.out 0).trans rfl; have hcz15_1 : w12.cell? ⟨gb484, 1, none⟩ = some (.int .u64 a1_1) := (blk_cell BK484.out 1).trans rfl; have hcz15_2 : w12.cell? ⟨gb484, 2, none⟩ = some (.int .i64 a1_2) := (blk_cell BK484.out 2).trans rfl; have hcz15_3 : w12.cell? ⟨gb484, 3, none⟩ = some (.int .i64 a1_3) := (blk_cell BK484.out 3).trans rfl; have hfz15_0 := blk_frozen BK484.out 0; have hfz15_1 := blk_frozen BK484.out 1; have hfz15_2 := blk_frozen BK484.out 2; have hfz15_3 := blk_frozen BK484.out 3))
              go_roundg k1
              case measure => have := HK1.out; omega
              case rel => exact ⟨(wrap64 (x9_1 + 1)), (by first | rfl | (simp; done) | (simp [*]; done)), H', ⟨by have := HK1.out; omega⟩, ⟨by (with_reducible repeat (first | refine blk_drewN ?_ _ | refine blk_drew ?_ | refine blk_alloc ?_ _)); refine blk_far ?_ NB484_486.out _; (with_reducible repeat (first | refine blk_drewN ?_ _ | refine blk_drew ?_ | refine blk_alloc ?_ _)); refine blk_far ?_ NB484_486.out _; (with_reducible repeat (first | refine blk_drewN ?_ _ | refine blk_drew ?_ | refine blk_alloc ?_ _)); refine blk_far ?_ NB484_486.out _; (with_reducible repeat (first | refine blk_drewN ?_ _ | refine blk_drew ?_ | refine blk_alloc ?_ _)); refine blk_far ?_ NB484_486.out _; (with_reducible repeat (first | refine blk_drewN ?_ _ | refine blk_drew ?_ | refine blk_alloc ?_ _)); exact BK484.out⟩, ⟨by repeat (first | (with_reducible first | exact HB.out | apply below_alloc | apply pw_below_drewN | apply below_drew1 | refine below_set ?_ GE484.out | refine below_set ?_ GE486.out) | exact HB.out)⟩⟩
          · rw [if_neg c6] at H
            exact absurd H (by simp)
        · rw [if_neg c5] at H
          exact absurd H (by simp)
      · rw [if_neg c4] at H
        have c4b0 : decide (x9_1 < (l0.length : Int)) = false := decide_eq_false c4
        clear c4
        obtain rfl := Option.some.inj H
        go_wp2
        go_ret
        exact ⟨by first | rfl | (simp [errW_none, errW_some] <;> rfl) | (simp [*, errW_none, errW_some] <;> rfl), by repeat (first | (with_reducible first | exact HB.out | apply below_alloc | apply pw_below_drewN | apply below_drew1 | refine below_set ?_ GE484.out) | exact HB.out)⟩

end Go.Proofs.Ytenmmeehgnkcpaa.Q
