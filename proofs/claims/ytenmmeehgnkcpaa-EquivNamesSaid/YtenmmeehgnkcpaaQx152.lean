-- PRINTED by print.py (a twelfth state) out of the translation. Not trusted: Lean checks it.
import Derived.Test.YtenmmeehgnkcpaaHStep
import Derived.Test.YtenmmeehgnkcpaaQx0
import Derived.Test.YtenmmeehgnkcpaaQx165
namespace Go.Proofs.Ytenmmeehgnkcpaa.Q
open Go.RowKit Go.Proofs.YtenmmeehgnkcpaaW.PrintWords Go.Proofs.YtenmmeehgnkcpaaW.PrintLast Go.Proofs.YtenmmeehgnkcpaaW.PrintMore
attribute [local go_sem] max2_int min2_int max_two min_two max_three min_three max_four min_four   -- for this text's walks alone
set_option linter.unusedVariables false
set_option linter.unusedSimpArgs false

/-! ### demurralref20_Made: function 52 -/
mutual
def demurralref20_Made.j0 : Nat → Int → Bool → Int → Int → Int → Int → Option (Bool)
  | 0, _, _, _, _, _, _ => none
  | k + 1, x0, x27, x193000, x193001, x193002, x193003 => if x27 = true then (some false) else (if x193000 = 0 then (if x193002 = 0 then (some (x193003 == 0)) else (some false)) else (if x193002 < 0 then (demurralref20_Made.j1 k x0 true x193000 x193001 x193002 x193003) else (demurralref20_Made.j1 k x0 (decide (x193002 ≥ x0)) x193000 x193001 x193002 x193003)))
def demurralref20_Made.j1 : Nat → Int → Bool → Int → Int → Int → Int → Option (Bool)
  | 0, _, _, _, _, _, _ => none
  | k + 1, x0, x47, x193000, x193001, x193002, x193003 => if x47 = true then (some false) else ((demurralref20_One.f x193000).bind fun t193 => (if t193 = true then (some (x193003 == 0)) else (if x193003 ≥ 0 then (if x193003 < x0 then (if x193000 = 2 then (some (decide (x193002 ≤ x193003))) else (some true)) else (some false)) else (some false))))
end
def demurralref20_Made.f (k : Nat) (a0 : Int) (a1_0 : Int) (a1_1 : Int) (a1_2 : Int) (a1_3 : Int) : Option (Bool) := if a1_0 < 0 then (demurralref20_Made.j0 k a0 true a1_0 a1_1 a1_2 a1_3) else (if a1_0 > 6 then (demurralref20_Made.j0 k a0 true a1_0 a1_1 a1_2 a1_3) else (if a1_1 = 0 then (demurralref20_Made.j0 k a0 false a1_0 a1_1 a1_2 a1_3) else (if a1_0 = 0 then (demurralref20_Made.j0 k a0 false a1_0 a1_1 a1_2 a1_3) else (demurralref20_Made.j0 k a0 (a1_0 != 3) a1_0 a1_1 a1_2 a1_3))))
theorem demurralref20_Made.mono_l : ∀ k, (∀ y0 y1 y2 y3 y4 y5, LeO (demurralref20_Made.j0 k y0 y1 y2 y3 y4 y5) (demurralref20_Made.j0 (k + 1) y0 y1 y2 y3 y4 y5)) ∧ (∀ y0 y1 y2 y3 y4 y5, LeO (demurralref20_Made.j1 k y0 y1 y2 y3 y4 y5) (demurralref20_Made.j1 (k + 1) y0 y1 y2 y3 y4 y5))
  | 0 => ⟨fun _ _ _ _ _ _ r h => by simp [demurralref20_Made.j0] at h, fun _ _ _ _ _ _ r h => by simp [demurralref20_Made.j1] at h⟩
  | k + 1 => by
    obtain ⟨ih0, ih1⟩ := demurralref20_Made.mono_l k
    refine ⟨?_, ?_⟩
    · intro y0 y1 y2 y3 y4 y5
      unfold demurralref20_Made.j0
      repeat' first
      | (with_reducible exact ih0 _ _ _ _ _ _)
      | (with_reducible exact ih1 _ _ _ _ _ _)
      | (with_reducible exact LeO.refl _)
      | (with_reducible exact LeO.none _)
      | (with_reducible refine LeO.ite ?_ ?_)
      | (with_reducible refine LeO.bind ?_ (fun _ => ?_))
      | exact ih0 _ _ _ _ _ _
      | exact ih1 _ _ _ _ _ _
      | exact LeO.none _
      | refine LeO.ite ?_ ?_
      | refine LeO.bind ?_ (fun _ => ?_)
    · intro y0 y1 y2 y3 y4 y5
      unfold demurralref20_Made.j1
      repeat' first
      | (with_reducible exact ih0 _ _ _ _ _ _)
      | (with_reducible exact ih1 _ _ _ _ _ _)
      | (with_reducible exact LeO.refl _)
      | (with_reducible exact LeO.none _)
      | (with_reducible refine LeO.ite ?_ ?_)
      | (with_reducible refine LeO.bind ?_ (fun _ => ?_))
      | exact ih0 _ _ _ _ _ _
      | exact ih1 _ _ _ _ _ _
      | exact LeO.none _
      | refine LeO.ite ?_ ?_
      | refine LeO.bind ?_ (fun _ => ?_)
theorem demurralref20_Made.mono : ∀ a0 a1 a2 a3 a4 k, LeO (demurralref20_Made.f k a0 a1 a2 a3 a4) (demurralref20_Made.f (k + 1) a0 a1 a2 a3 a4) := by
  intro a0 a1 a2 a3 a4 k
  obtain ⟨ih0, ih1⟩ := demurralref20_Made.mono_l k
  unfold demurralref20_Made.f
  repeat' first
      | (with_reducible exact ih0 _ _ _ _ _ _)
      | (with_reducible exact ih1 _ _ _ _ _ _)
      | (with_reducible exact LeO.refl _)
      | (with_reducible exact LeO.none _)
      | (with_reducible refine LeO.ite ?_ ?_)
      | (with_reducible refine LeO.bind ?_ (fun _ => ?_))
      | exact ih0 _ _ _ _ _ _
      | exact ih1 _ _ _ _ _ _
      | exact LeO.none _
      | refine LeO.ite ?_ ?_
      | refine LeO.bind ?_ (fun _ => ?_)
set_option maxHeartbeats 8000000 in
set_option maxRecDepth 100000 in
theorem demurralref20_Made.calls (k : Nat) (a0 : Int) (a1_0 : Int) (a1_1 : Int) (a1_2 : Int) (a1_3 : Int) (r : Bool) (w : World) (h : demurralref20_Made.f k a0 a1_0 a1_1 a1_2 a1_3 = some r) :
    Calls Try.prog 52 #[.int .i64 a0, .agg #[.int .i64 a1_0, .int .u64 a1_1, .int .i64 a1_2, .int .i64 a1_3]] w fun e w' => e = .returned (.bool r) ∧ Below w.heap.size w w' := by
  have hu28 := Try.underlying28
  have HB := Aside0.mk (Below.refl w.heap.size w)
  have H : (if a1_0 < 0 then (demurralref20_Made.j0 k a0 true a1_0 a1_1 a1_2 a1_3) else (if a1_0 > 6 then (demurralref20_Made.j0 k a0 true a1_0 a1_1 a1_2 a1_3) else (if a1_1 = 0 then (demurralref20_Made.j0 k a0 false a1_0 a1_1 a1_2 a1_3) else (if a1_0 = 0 then (demurralref20_Made.j0 k a0 false a1_0 a1_1 a1_2 a1_3) else (demurralref20_Made.j0 k a0 (a1_0 != 3) a1_0 a1_1 a1_2 a1_3))))) = some r := h
  clear h
  have HC3 := Aside0.mk H
  clear H
  go_enter Try.func52, Try.ntmps52
  go_upto_region 1 with (first | ((with_reducible refine gate_dst (N := 3) rfl ?_); refine box_event ?hg (N := 3) ?hd (cs := #[.int .i64 a1_0, .int .u64 a1_1, .int .i64 a1_2, .int .i64 a1_3]) (t := 28) ?hr ?_; (case hd => rfl); (case hg => rfl); (case hr => first | (go_simp; done) | (go_simp; rfl)); intro gb192 hg w4 hbox hb; have n0_ := Aside0.mk (below_step (wb_ HB.out) hb); have n1_ := Aside0.mk (hbox); have n2_ := Aside0.mk ((by rw [hg]; exact (below_size (wb_ HB.out)) : w.heap.size ≤ gb192)); have n3_ := Aside0.mk ((by rw [hg]; exact (below_size (wb_ HB.out)) : w.heap.size ≤ gb192)); clear HB; have HB := n0_; have BK192 := n1_; have GW192 := n2_; have GE192 := n3_; clear n0_ n1_ n2_ n3_; clear hb hbox hg))
  (try simp only [Act.put, List.setIfInBounds_toArray, List.set_cons_zero, List.set_cons_succ])
  go_cut [27] (fun v27 wc => ∃ (kq : Nat) (x27_2 : Bool), v27 = .bool x27_2 ∧ Aside0 (demurralref20_Made.j0 kq a0 x27_2 a1_0 a1_1 a1_2 a1_3 = some r) ∧ Aside0 (kq ≤ k) ∧ Aside0 (wc.heap[gb192]? = some (.cells #[.int .i64 a1_0, .int .u64 a1_1, .int .i64 a1_2, .int .i64 a1_3] 28 (0, 0))) ∧ Aside0 (Below w.heap.size w wc))
  case first =>
    have H := HC3.out
    clear HC3
    by_cases c5 : a1_0 < 0
    · rw [if_pos c5] at H
      have c5b0 : decide (a1_0 < 0) = true := decide_eq_true c5
      clear c5
      (first | rw [c5b0] | (simp only [i64_w, i32_w]; rw [c5b0]) | skip)
      have H' := Aside0.mk H
      clear H
      have hcz6_0 : w4.cell? ⟨gb192, 0, none⟩ = some (.int .i64 a1_0) := (blk_cell BK192.out 0).trans rfl
      have hcz6_1 : w4.cell? ⟨gb192, 1, none⟩ = some (.int .u64 a1_1) := (blk_cell BK192.out 1).trans rfl
      have hcz6_2 : w4.cell? ⟨gb192, 2, none⟩ = some (.int .i64 a1_2) := (blk_cell BK192.out 2).trans rfl
      have hcz6_3 : w4.cell? ⟨gb192, 3, none⟩ = some (.int .i64 a1_3) := (blk_cell BK192.out 3).trans rfl
      have hfz6_0 := blk_frozen BK192.out 0
      have hfz6_1 := blk_frozen BK192.out 1
      have hfz6_2 := blk_frozen BK192.out 2
      have hfz6_3 := blk_frozen BK192.out 3
      go_wp2
      go_meet
      case rel => exact ⟨_, (true), (by first | rfl | (simp; done) | (simp [*]; done)), H', ⟨by first | omega | exact Nat.le_refl _⟩, ⟨by (with_reducible repeat (first | refine blk_drewN ?_ _ | refine blk_drew ?_ | refine blk_alloc ?_ _)); exact BK192.out⟩, ⟨by repeat (first | (with_reducible first | exact HB.out | apply below_alloc | apply pw_below_drewN | apply below_drew1 | refine below_set ?_ GE192.out) | exact HB.out)⟩⟩
    · rw [if_neg c5] at H
      have c5b0 : decide (a1_0 < 0) = false := decide_eq_false c5
      clear c5
      (first | rw [c5b0] | (simp only [i64_w, i32_w]; rw [c5b0]) | skip)
      by_cases c7 : a1_0 > 6
      · rw [if_pos c7] at H
        have c7b0 : decide (6 < a1_0) = true := decide_eq_true c7
        clear c7
        have H' := Aside0.mk H
        clear H
        have hcz8_0 : w4.cell? ⟨gb192, 0, none⟩ = some (.int .i64 a1_0) := (blk_cell BK192.out 0).trans rfl
        have hcz8_1 : w4.cell? ⟨gb192, 1, none⟩ = some (.int .u64 a1_1) := (blk_cell BK192.out 1).trans rfl
        have hcz8_2 : w4.cell? ⟨gb192, 2, none⟩ = some (.int .i64 a1_2) := (blk_cell BK192.out 2).trans rfl
        have hcz8_3 : w4.cell? ⟨gb192, 3, none⟩ = some (.int .i64 a1_3) := (blk_cell BK192.out 3).trans rfl
        have hfz8_0 := blk_frozen BK192.out 0
        have hfz8_1 := blk_frozen BK192.out 1
        have hfz8_2 := blk_frozen BK192.out 2
        have hfz8_3 := blk_frozen BK192.out 3
        go_wp2
        go_meet
        case rel => exact ⟨_, (true), (by first | rfl | (simp; done) | (simp [*]; done)), H', ⟨by first | omega | exact Nat.le_refl _⟩, ⟨by (with_reducible repeat (first | refine blk_drewN ?_ _ | refine blk_drew ?_ | refine blk_alloc ?_ _)); exact BK192.out⟩, ⟨by repeat (first | (with_reducible first | exact HB.out | apply below_alloc | apply pw_below_drewN | apply below_drew1 | refine below_set ?_ GE192.out) | exact HB.out)⟩⟩
      · rw [if_neg c7] at H
        have c7b0 : decide (6 < a1_0) = false := decide_eq_false c7
        clear c7
        by_cases c9 : a1_1 = 0
        · rw [if_pos c9] at H
          have c9b0 : (a1_1 == 0) = true := beq_iff_eq.mpr c9
          have c9b1 : (a1_1 != 0) = false := bne_eq_false_iff_eq.mpr c9
          clear c9
          have H' := Aside0.mk H
          clear H
          have hcz10_0 : w4.cell? ⟨gb192, 0, none⟩ = some (.int .i64 a1_0) := (blk_cell BK192.out 0).trans rfl
          have hcz10_1 : w4.cell? ⟨gb192, 1, none⟩ = some (.int .u64 a1_1) := (blk_cell BK192.out 1).trans rfl
          have hcz10_2 : w4.cell? ⟨gb192, 2, none⟩ = some (.int .i64 a1_2) := (blk_cell BK192.out 2).trans rfl
          have hcz10_3 : w4.cell? ⟨gb192, 3, none⟩ = some (.int .i64 a1_3) := (blk_cell BK192.out 3).trans rfl
          have hfz10_0 := blk_frozen BK192.out 0
          have hfz10_1 := blk_frozen BK192.out 1
          have hfz10_2 := blk_frozen BK192.out 2
          have hfz10_3 := blk_frozen BK192.out 3
          go_wp2
          go_meet
          case rel => exact ⟨_, (false), (by first | rfl | (simp; done) | (simp [*]; done)), H', ⟨by first | omega | exact Nat.le_refl _⟩, ⟨by (with_reducible repeat (first | refine blk_drewN ?_ _ | refine blk_drew ?_ | refine blk_alloc ?_ _)); exact BK192.out⟩, ⟨by repeat (first | (with_reducible first | exact HB.out | apply below_alloc | apply pw_below_drewN | apply below_drew1 | refine below_set ?_ GE192.out) | exact HB.out)⟩⟩
        · rw [if_neg c9] at H
          have c9b0 : (a1_1 == 0) = false := beq_eq_false_iff_ne.mpr c9
          have c9b1 : (a1_1 != 0) = true := bne_iff_ne.mpr c9
          by_cases c11 : a1_0 = 0
          · rw [if_pos c11] at H
            have c11b0 : (a1_0 == 0) = true := beq_iff_eq.mpr c11
            have c11b1 : (a1_0 != 0) = false := bne_eq_false_iff_eq.mpr c11
            clear c11
            have H' := Aside0.mk H
            clear H
            have hcz12_0 : w4.cell? ⟨gb192, 0, none⟩ = some (.int .i64 a1_0) := (blk_cell BK192.out 0).trans rfl
            have hcz12_1 : w4.cell? ⟨gb192, 1, none⟩ = some (.int .u64 a1_1) := (blk_cell BK192.out 1).trans rfl
            have hcz12_2 : w4.cell? ⟨gb192, 2, none⟩ = some (.int .i64 a1_2) := (blk_cell BK192.out 2).trans rfl
            have hcz12_3 : w4.cell? ⟨gb192, 3, none⟩ = some (.int .i64 a1_3) := (blk_cell BK192.out 3).trans rfl
            have hfz12_0 := blk_frozen BK192.out 0
            have hfz12_1 := blk_frozen BK192.out 1
            have hfz12_2 := blk_frozen BK192.out 2
            have hfz12_3 := blk_frozen BK192.out 3
            go_wp2
            go_meet
            case rel => exact ⟨_, (false), (by first | rfl | (simp; done) | (simp [*]; done)), H', ⟨by first | omega | exact Nat.le_refl _⟩, ⟨by (with_reducible repeat (first | refine blk_drewN ?_ _ | refine blk_drew ?_ | refine blk_alloc ?_ _)); exact BK192.out⟩, ⟨by repeat (first | (with_reducible first | exact HB.out | apply below_alloc | apply pw_below_drewN | apply below_drew1 | refine below_set ?_ GE192.out) | exact HB.out)⟩⟩
          · rw [if_neg c11] at H
            have c11b0 : (a1_0 == 0) = false := beq_eq_false_iff_ne.mpr c11
            have c11b1 : (a1_0 != 0) = true := bne_iff_ne.mpr c11
            have H' := Aside0.mk H
            clear H
            have hcz13_0 : w4.cell? ⟨gb192, 0, none⟩ = some (.int .i64 a1_0) := (blk_cell BK192.out 0).trans rfl
            have hcz13_1 : w4.cell? ⟨gb192, 1, none⟩ = some (.int .u64 a1_1) := (blk_cell BK192.out 1).trans rfl
            have hcz13_2 : w4.cell? ⟨gb192, 2, none⟩ = some (.int .i64 a1_2) := (blk_cell BK192.out 2).trans rfl
            have hcz13_3 : w4.cell? ⟨gb192, 3, none⟩ = some (.int .i64 a1_3) := (blk_cell BK192.out 3).trans rfl
            have hfz13_0 := blk_frozen BK192.out 0
            have hfz13_1 := blk_frozen BK192.out 1
            have hfz13_2 := blk_frozen BK192.out 2
            have hfz13_3 := blk_frozen BK192.out 3
            go_wp2
            go_meet
            case rel => exact ⟨_, ((a1_0 != 3)), (by first | rfl | (simp; done) | (simp [*]; done)), H', ⟨by first | omega | exact Nat.le_refl _⟩, ⟨by (with_reducible repeat (first | refine blk_drewN ?_ _ | refine blk_drew ?_ | refine blk_alloc ?_ _)); exact BK192.out⟩, ⟨by repeat (first | (with_reducible first | exact HB.out | apply below_alloc | apply pw_below_drewN | apply below_drew1 | refine below_set ?_ GE192.out) | exact HB.out)⟩⟩
  case rest =>
    clear HC3
    try clear c1
    try clear p2
    try clear c5
    try clear c5b0
    try clear c7
    try clear c7b0
    try clear c9
    try clear c9b0
    try clear c9b1
    try clear c11
    try clear c11b0
    try clear c11b1
    try clear hcz10_0
    try clear hcz10_1
    try clear hcz10_2
    try clear hcz10_3
    try clear hcz12_0
    try clear hcz12_1
    try clear hcz12_2
    try clear hcz12_3
    try clear hcz13_0
    try clear hcz13_1
    try clear hcz13_2
    try clear hcz13_3
    try clear hcz6_0
    try clear hcz6_1
    try clear hcz6_2
    try clear hcz6_3
    try clear hcz8_0
    try clear hcz8_1
    try clear hcz8_2
    try clear hcz8_3
    try clear hfz10_0
    try clear hfz10_1
    try clear hfz10_2
    try clear hfz10_3
    try clear hfz12_0
    try clear hfz12_1
    try clear hfz12_2
    try clear hfz12_3
    try clear hfz13_0
    try clear hfz13_1
    try clear hfz13_2
    try clear hfz13_3
    try clear hfz6_0
    try clear hfz6_1
    try clear hfz6_2
    try clear hfz6_3
    try clear hfz8_0
    try clear hfz8_1
    try clear hfz8_2
    try clear hfz8_3
    obtain ⟨kq, x27_2, rfl, HA, HJ2, BK192, HB⟩ := hcut
    cases kq with
    | zero => exact absurd HA.out (by simp [demurralref20_Made.j0])
    | succ kj2 =>
      have H := HA.out
      clear HA
      simp only [demurralref20_Made.j0] at H
      by_cases c14 : x27_2 = true
      · subst c14
        have H1 : (some false) = some r := by rw [if_pos rfl] at H; exact H
        clear H
        have H := H1
        clear H1
        obtain rfl := Option.some.inj H
        go_wp2
        go_ret
        exact ⟨by first | rfl | (simp [errW_none, errW_some] <;> rfl) | (simp [*, errW_none, errW_some] <;> rfl), by repeat (first | (with_reducible first | exact HB.out | apply below_alloc | apply pw_below_drewN | apply below_drew1 | refine below_set ?_ GE192.out) | exact HB.out)⟩
      · replace c14 := Bool.eq_false_iff.mpr c14
        subst c14
        have H1 : (if a1_0 = 0 then (if a1_2 = 0 then (some (a1_3 == 0)) else (some false)) else (if a1_2 < 0 then (demurralref20_Made.j1 kj2 a0 true a1_0 a1_1 a1_2 a1_3) else (demurralref20_Made.j1 kj2 a0 (decide (a1_2 ≥ a0)) a1_0 a1_1 a1_2 a1_3))) = some r := by rw [if_neg (show ¬ (false = true) by decide)] at H; exact H
        clear H
        have H := H1
        clear H1
        by_cases c15 : a1_0 = 0
        · rw [if_pos c15] at H
          have c15b0 : (a1_0 == 0) = true := beq_iff_eq.mpr c15
          have c15b1 : (a1_0 != 0) = false := bne_eq_false_iff_eq.mpr c15
          clear c15
          by_cases c16 : a1_2 = 0
          · rw [if_pos c16] at H
            have c16b0 : (a1_2 == 0) = true := beq_iff_eq.mpr c16
            have c16b1 : (a1_2 != 0) = false := bne_eq_false_iff_eq.mpr c16
            clear c16
            obtain rfl := Option.some.inj H
            have hcz17_0 : wc.cell? ⟨gb192, 0, none⟩ = some (.int .i64 a1_0) := (blk_cell BK192.out 0).trans rfl
            have hcz17_1 : wc.cell? ⟨gb192, 1, none⟩ = some (.int .u64 a1_1) := (blk_cell BK192.out 1).trans rfl
            have hcz17_2 : wc.cell? ⟨gb192, 2, none⟩ = some (.int .i64 a1_2) := (blk_cell BK192.out 2).trans rfl
            have hcz17_3 : wc.cell? ⟨gb192, 3, none⟩ = some (.int .i64 a1_3) := (blk_cell BK192.out 3).trans rfl
            have hfz17_0 := blk_frozen BK192.out 0
            have hfz17_1 := blk_frozen BK192.out 1
            have hfz17_2 := blk_frozen BK192.out 2
            have hfz17_3 := blk_frozen BK192.out 3
            go_wp2
            go_ret
            exact ⟨by first | rfl | (simp [errW_none, errW_some] <;> rfl) | (simp [*, errW_none, errW_some] <;> rfl), by repeat (first | (with_reducible first | exact HB.out | apply below_alloc | apply pw_below_drewN | apply below_drew1 | refine below_set ?_ GE192.out) | exact HB.out)⟩
          · rw [if_neg c16] at H
            have c16b0 : (a1_2 == 0) = false := beq_eq_false_iff_ne.mpr c16
            have c16b1 : (a1_2 != 0) = true := bne_iff_ne.mpr c16
            obtain rfl := Option.some.inj H
            have hcz18_0 : wc.cell? ⟨gb192, 0, none⟩ = some (.int .i64 a1_0) := (blk_cell BK192.out 0).trans rfl
            have hcz18_1 : wc.cell? ⟨gb192, 1, none⟩ = some (.int .u64 a1_1) := (blk_cell BK192.out 1).trans rfl
            have hcz18_2 : wc.cell? ⟨gb192, 2, none⟩ = some (.int .i64 a1_2) := (blk_cell BK192.out 2).trans rfl
            have hcz18_3 : wc.cell? ⟨gb192, 3, none⟩ = some (.int .i64 a1_3) := (blk_cell BK192.out 3).trans rfl
            have hfz18_0 := blk_frozen BK192.out 0
            have hfz18_1 := blk_frozen BK192.out 1
            have hfz18_2 := blk_frozen BK192.out 2
            have hfz18_3 := blk_frozen BK192.out 3
            go_wp2
            go_ret
            exact ⟨by first | rfl | (simp [errW_none, errW_some] <;> rfl) | (simp [*, errW_none, errW_some] <;> rfl), by repeat (first | (with_reducible first | exact HB.out | apply below_alloc | apply pw_below_drewN | apply below_drew1 | refine below_set ?_ GE192.out) | exact HB.out)⟩
        · rw [if_neg c15] at H
          have c15b0 : (a1_0 == 0) = false := beq_eq_false_iff_ne.mpr c15
          have c15b1 : (a1_0 != 0) = true := bne_iff_ne.mpr c15
          have HC19 := Aside0.mk H
          clear H
          have hcz20_0 : wc.cell? ⟨gb192, 0, none⟩ = some (.int .i64 a1_0) := (blk_cell BK192.out 0).trans rfl
          have hcz20_1 : wc.cell? ⟨gb192, 1, none⟩ = some (.int .u64 a1_1) := (blk_cell BK192.out 1).trans rfl
          have hcz20_2 : wc.cell? ⟨gb192, 2, none⟩ = some (.int .i64 a1_2) := (blk_cell BK192.out 2).trans rfl
          have hcz20_3 : wc.cell? ⟨gb192, 3, none⟩ = some (.int .i64 a1_3) := (blk_cell BK192.out 3).trans rfl
          have hfz20_0 := blk_frozen BK192.out 0
          have hfz20_1 := blk_frozen BK192.out 1
          have hfz20_2 := blk_frozen BK192.out 2
          have hfz20_3 := blk_frozen BK192.out 3
          go_upto_region 5 with (fail)
          go_cut [47] (fun v47 wc => ∃ (kq : Nat) (x47_18 : Bool), v47 = .bool x47_18 ∧ Aside0 (demurralref20_Made.j1 kq a0 x47_18 a1_0 a1_1 a1_2 a1_3 = some r) ∧ Aside0 (kq ≤ kj2) ∧ Aside0 (wc.heap[gb192]? = some (.cells #[.int .i64 a1_0, .int .u64 a1_1, .int .i64 a1_2, .int .i64 a1_3] 28 (0, 0))) ∧ Aside0 (Below w.heap.size w wc))
          case first =>
            have H := HC19.out
            clear HC19
            by_cases c21 : a1_2 < 0
            · rw [if_pos c21] at H
              have c21b0 : decide (a1_2 < 0) = true := decide_eq_true c21
              clear c21
              (first | rw [c21b0] | (simp only [i64_w, i32_w]; rw [c21b0]) | skip)
              have H' := Aside0.mk H
              clear H
              have hcz22_0 : wc.cell? ⟨gb192, 0, none⟩ = some (.int .i64 a1_0) := (blk_cell BK192.out 0).trans rfl
              have hcz22_1 : wc.cell? ⟨gb192, 1, none⟩ = some (.int .u64 a1_1) := (blk_cell BK192.out 1).trans rfl
              have hcz22_2 : wc.cell? ⟨gb192, 2, none⟩ = some (.int .i64 a1_2) := (blk_cell BK192.out 2).trans rfl
              have hcz22_3 : wc.cell? ⟨gb192, 3, none⟩ = some (.int .i64 a1_3) := (blk_cell BK192.out 3).trans rfl
              have hfz22_0 := blk_frozen BK192.out 0
              have hfz22_1 := blk_frozen BK192.out 1
              have hfz22_2 := blk_frozen BK192.out 2
              have hfz22_3 := blk_frozen BK192.out 3
              go_wp2
              go_meet
              case rel => exact ⟨_, (true), (by first | rfl | (simp; done) | (simp [*]; done)), H', ⟨by have := HJ2.out; first | omega | exact Nat.le_refl _⟩, ⟨by (with_reducible repeat (first | refine blk_drewN ?_ _ | refine blk_drew ?_ | refine blk_alloc ?_ _)); exact BK192.out⟩, ⟨by repeat (first | (with_reducible first | exact HB.out | apply below_alloc | apply pw_below_drewN | apply below_drew1 | refine below_set ?_ GE192.out) | exact HB.out)⟩⟩
            · rw [if_neg c21] at H
              have c21b0 : decide (a1_2 < 0) = false := decide_eq_false c21
              clear c21
              (first | rw [c21b0] | (simp only [i64_w, i32_w]; rw [c21b0]) | skip)
              have H' := Aside0.mk H
              clear H
              have hcz23_0 : wc.cell? ⟨gb192, 0, none⟩ = some (.int .i64 a1_0) := (blk_cell BK192.out 0).trans rfl
              have hcz23_1 : wc.cell? ⟨gb192, 1, none⟩ = some (.int .u64 a1_1) := (blk_cell BK192.out 1).trans rfl
              have hcz23_2 : wc.cell? ⟨gb192, 2, none⟩ = some (.int .i64 a1_2) := (blk_cell BK192.out 2).trans rfl
              have hcz23_3 : wc.cell? ⟨gb192, 3, none⟩ = some (.int .i64 a1_3) := (blk_cell BK192.out 3).trans rfl
              have hfz23_0 := blk_frozen BK192.out 0
              have hfz23_1 := blk_frozen BK192.out 1
              have hfz23_2 := blk_frozen BK192.out 2
              have hfz23_3 := blk_frozen BK192.out 3
              go_wp2
              go_meet
              case rel => exact ⟨_, (decide (a1_2 ≥ a0)), (by first | rfl | (simp; done) | (simp [*]; done)), H', ⟨by have := HJ2.out; first | omega | exact Nat.le_refl _⟩, ⟨by (with_reducible repeat (first | refine blk_drewN ?_ _ | refine blk_drew ?_ | refine blk_alloc ?_ _)); exact BK192.out⟩, ⟨by repeat (first | (with_reducible first | exact HB.out | apply below_alloc | apply pw_below_drewN | apply below_drew1 | refine below_set ?_ GE192.out) | exact HB.out)⟩⟩
          case rest =>
            clear HC19
            try clear c1
            try clear c2
            try clear p2
            try clear c5
            try clear c5b0
            try clear c7
            try clear c7b0
            try clear c9
            try clear c9b0
            try clear c9b1
            try clear c11
            try clear c11b0
            try clear c11b1
            try clear c14
            try clear c15
            try clear c15b0
            try clear c15b1
            try clear c16
            try clear c16b0
            try clear c16b1
            try clear c21
            try clear c21b0
            try clear hcz10_0
            try clear hcz10_1
            try clear hcz10_2
            try clear hcz10_3
            try clear hcz12_0
            try clear hcz12_1
            try clear hcz12_2
            try clear hcz12_3
            try clear hcz13_0
            try clear hcz13_1
            try clear hcz13_2
            try clear hcz13_3
            try clear hcz17_0
            try clear hcz17_1
            try clear hcz17_2
            try clear hcz17_3
            try clear hcz18_0
            try clear hcz18_1
            try clear hcz18_2
            try clear hcz18_3
            try clear hcz20_0
            try clear hcz20_1
            try clear hcz20_2
            try clear hcz20_3
            try clear hcz22_0
            try clear hcz22_1
            try clear hcz22_2
            try clear hcz22_3
            try clear hcz23_0
            try clear hcz23_1
            try clear hcz23_2
            try clear hcz23_3
            try clear hcz6_0
            try clear hcz6_1
            try clear hcz6_2
            try clear hcz6_3
            try clear hcz8_0
            try clear hcz8_1
            try clear hcz8_2
            try clear hcz8_3
            try clear hfz10_0
            try clear hfz10_1
            try clear hfz10_2
            try clear hfz10_3
            try clear hfz12_0
            try clear hfz12_1
            try clear hfz12_2
            try clear hfz12_3
            try clear hfz13_0
            try clear hfz13_1
            try clear hfz13_2
            try clear hfz13_3
            try clear hfz17_0
            try clear hfz17_1
            try clear hfz17_2
            try clear hfz17_3
            try clear hfz18_0
            try clear hfz18_1
            try clear hfz18_2
            try clear hfz18_3
            try clear hfz20_0
            try clear hfz20_1
            try clear hfz20_2
            try clear hfz20_3
            try clear hfz22_0
            try clear hfz22_1
            try clear hfz22_2
            try clear hfz22_3
            try clear hfz23_0
            try clear hfz23_1
            try clear hfz23_2
            try clear hfz23_3
            try clear hfz6_0
            try clear hfz6_1
            try clear hfz6_2
            try clear hfz6_3
            try clear hfz8_0
            try clear hfz8_1
            try clear hfz8_2
            try clear hfz8_3
            try clear p2
            obtain ⟨kq, x47_18, rfl, HA, HJ18, BK192, HB⟩ := hcut
            cases kq with
            | zero => exact absurd HA.out (by simp [demurralref20_Made.j1])
            | succ kj18 =>
              have H := HA.out
              clear HA
              simp only [demurralref20_Made.j1] at H
              by_cases c24 : x47_18 = true
              · subst c24
                have H1 : (some false) = some r := by rw [if_pos rfl] at H; exact H
                clear H
                have H := H1
                clear H1
                obtain rfl := Option.some.inj H
                go_wp2
                go_ret
                exact ⟨by first | rfl | (simp [errW_none, errW_some] <;> rfl) | (simp [*, errW_none, errW_some] <;> rfl), by repeat (first | (with_reducible first | exact HB.out | apply below_alloc | apply pw_below_drewN | apply below_drew1 | refine below_set ?_ GE192.out) | exact HB.out)⟩
              · replace c24 := Bool.eq_false_iff.mpr c24
                subst c24
                have H1 : ((demurralref20_One.f a1_0).bind fun t193 => (if t193 = true then (some (a1_3 == 0)) else (if a1_3 ≥ 0 then (if a1_3 < a0 then (if a1_0 = 2 then (some (decide (a1_2 ≤ a1_3))) else (some true)) else (some false)) else (some false)))) = some r := by rw [if_neg (show ¬ (false = true) by decide)] at H; exact H
                clear H
                have H := H1
                clear H1
                replace H := Option.bind_eq_some_iff.mp H
                obtain ⟨t193, A250, H⟩ := H
                replace H : (if t193 = true then (some (a1_3 == 0)) else (if a1_3 ≥ 0 then (if a1_3 < a0 then (if a1_0 = 2 then (some (decide (a1_2 ≤ a1_3))) else (some true)) else (some false)) else (some false))) = some r := H
                have A25 := Aside0.mk A250
                clear A250
                by_cases c26 : t193 = true
                · subst c26
                  have H1 : (some (a1_3 == 0)) = some r := by rw [if_pos rfl] at H; exact H
                  clear H
                  have H := H1
                  clear H1
                  obtain rfl := Option.some.inj H
                  have hcz27_0 : wc.cell? ⟨gb192, 0, none⟩ = some (.int .i64 a1_0) := (blk_cell BK192.out 0).trans rfl
                  have hcz27_1 : wc.cell? ⟨gb192, 1, none⟩ = some (.int .u64 a1_1) := (blk_cell BK192.out 1).trans rfl
                  have hcz27_2 : wc.cell? ⟨gb192, 2, none⟩ = some (.int .i64 a1_2) := (blk_cell BK192.out 2).trans rfl
                  have hcz27_3 : wc.cell? ⟨gb192, 3, none⟩ = some (.int .i64 a1_3) := (blk_cell BK192.out 3).trans rfl
                  have hfz27_0 := blk_frozen BK192.out 0
                  have hfz27_1 := blk_frozen BK192.out 1
                  have hfz27_2 := blk_frozen BK192.out 2
                  have hfz27_3 := blk_frozen BK192.out 3
                  go_wp2_with (first | ((with_reducible refine gate_callee (f := 65) rfl ?_); refine goesL_ (some 50) rfl rfl Try.func65 (by kernel_rfl) rfl #[.int .i64 a1_0] rfl (by (try simp only [List.map_toArray, List.map_cons, List.map_nil]); first | done | rfl | (simp only [List.length_drop, List.length_take]; rfl) | (simp [Act.eval]; omega)) ?_; (with_reducible refine (demurralref20_One.calls a1_0 true _ A25.out).mono ?_); rintro e w' ⟨rfl, ⟨nd, rfl⟩⟩; refine ⟨_, rfl, ?_⟩))
                  go_ret
                  exact ⟨by first | rfl | (simp [errW_none, errW_some] <;> rfl) | (simp [*, errW_none, errW_some] <;> rfl), by repeat (first | (with_reducible first | exact HB.out | apply below_alloc | apply pw_below_drewN | apply below_drew1 | refine below_set ?_ GE192.out) | exact HB.out)⟩
                · replace c26 := Bool.eq_false_iff.mpr c26
                  subst c26
                  have H1 : (if a1_3 ≥ 0 then (if a1_3 < a0 then (if a1_0 = 2 then (some (decide (a1_2 ≤ a1_3))) else (some true)) else (some false)) else (some false)) = some r := by rw [if_neg (show ¬ (false = true) by decide)] at H; exact H
                  clear H
                  have H := H1
                  clear H1
                  by_cases c28 : a1_3 ≥ 0
                  · rw [if_pos c28] at H
                    have c28b0 : decide (0 ≤ a1_3) = true := decide_eq_true c28
                    clear c28
                    by_cases c29 : a1_3 < a0
                    · rw [if_pos c29] at H
                      have c29b0 : decide (a1_3 < a0) = true := decide_eq_true c29
                      clear c29
                      by_cases c30 : a1_0 = 2
                      · rw [if_pos c30] at H
                        have c30b0 : (a1_0 == 2) = true := beq_iff_eq.mpr c30
                        have c30b1 : (a1_0 != 2) = false := bne_eq_false_iff_eq.mpr c30
                        clear c30
                        obtain rfl := Option.some.inj H
                        have hcz31_0 : wc.cell? ⟨gb192, 0, none⟩ = some (.int .i64 a1_0) := (blk_cell BK192.out 0).trans rfl
                        have hcz31_1 : wc.cell? ⟨gb192, 1, none⟩ = some (.int .u64 a1_1) := (blk_cell BK192.out 1).trans rfl
                        have hcz31_2 : wc.cell? ⟨gb192, 2, none⟩ = some (.int .i64 a1_2) := (blk_cell BK192.out 2).trans rfl
                        have hcz31_3 : wc.cell? ⟨gb192, 3, none⟩ = some (.int .i64 a1_3) := (blk_cell BK192.out 3).trans rfl
                        have hfz31_0 := blk_frozen BK192.out 0
                        have hfz31_1 := blk_frozen BK192.out 1
                        have hfz31_2 := blk_frozen BK192.out 2
                        have hfz31_3 := blk_frozen BK192.out 3
                        go_wp2_with (first | ((with_reducible refine gate_callee (f := 65) rfl ?_); refine goesL_ (some 50) rfl rfl Try.func65 (by kernel_rfl) rfl #[.int .i64 a1_0] rfl (by (try simp only [List.map_toArray, List.map_cons, List.map_nil]); first | done | rfl | (simp only [List.length_drop, List.length_take]; rfl) | (simp [Act.eval]; omega)) ?_; (with_reducible refine (demurralref20_One.calls a1_0 false _ A25.out).mono ?_); rintro e w' ⟨rfl, ⟨nd, rfl⟩⟩; refine ⟨_, rfl, ?_⟩))
                        go_ret
                        exact ⟨by first | rfl | (simp [errW_none, errW_some] <;> rfl) | (simp [*, errW_none, errW_some] <;> rfl), by repeat (first | (with_reducible first | exact HB.out | apply below_alloc | apply pw_below_drewN | apply below_drew1 | refine below_set ?_ GE192.out) | exact HB.out)⟩
                      · rw [if_neg c30] at H
                        have c30b0 : (a1_0 == 2) = false := beq_eq_false_iff_ne.mpr c30
                        have c30b1 : (a1_0 != 2) = true := bne_iff_ne.mpr c30
                        obtain rfl := Option.some.inj H
                        have hcz32_0 : wc.cell? ⟨gb192, 0, none⟩ = some (.int .i64 a1_0) := (blk_cell BK192.out 0).trans rfl
                        have hcz32_1 : wc.cell? ⟨gb192, 1, none⟩ = some (.int .u64 a1_1) := (blk_cell BK192.out 1).trans rfl
                        have hcz32_2 : wc.cell? ⟨gb192, 2, none⟩ = some (.int .i64 a1_2) := (blk_cell BK192.out 2).trans rfl
                        have hcz32_3 : wc.cell? ⟨gb192, 3, none⟩ = some (.int .i64 a1_3) := (blk_cell BK192.out 3).trans rfl
                        have hfz32_0 := blk_frozen BK192.out 0
                        have hfz32_1 := blk_frozen BK192.out 1
                        have hfz32_2 := blk_frozen BK192.out 2
                        have hfz32_3 := blk_frozen BK192.out 3
                        go_wp2_with (first | ((with_reducible refine gate_callee (f := 65) rfl ?_); refine goesL_ (some 50) rfl rfl Try.func65 (by kernel_rfl) rfl #[.int .i64 a1_0] rfl (by (try simp only [List.map_toArray, List.map_cons, List.map_nil]); first | done | rfl | (simp only [List.length_drop, List.length_take]; rfl) | (simp [Act.eval]; omega)) ?_; (with_reducible refine (demurralref20_One.calls a1_0 false _ A25.out).mono ?_); rintro e w' ⟨rfl, ⟨nd, rfl⟩⟩; refine ⟨_, rfl, ?_⟩))
                        go_ret
                        exact ⟨by first | rfl | (simp [errW_none, errW_some] <;> rfl) | (simp [*, errW_none, errW_some] <;> rfl), by repeat (first | (with_reducible first | exact HB.out | apply below_alloc | apply pw_below_drewN | apply below_drew1 | refine below_set ?_ GE192.out) | exact HB.out)⟩
                    · rw [if_neg c29] at H
                      have c29b0 : decide (a1_3 < a0) = false := decide_eq_false c29
                      clear c29
                      obtain rfl := Option.some.inj H
                      have hcz33_0 : wc.cell? ⟨gb192, 0, none⟩ = some (.int .i64 a1_0) := (blk_cell BK192.out 0).trans rfl
                      have hcz33_1 : wc.cell? ⟨gb192, 1, none⟩ = some (.int .u64 a1_1) := (blk_cell BK192.out 1).trans rfl
                      have hcz33_2 : wc.cell? ⟨gb192, 2, none⟩ = some (.int .i64 a1_2) := (blk_cell BK192.out 2).trans rfl
                      have hcz33_3 : wc.cell? ⟨gb192, 3, none⟩ = some (.int .i64 a1_3) := (blk_cell BK192.out 3).trans rfl
                      have hfz33_0 := blk_frozen BK192.out 0
                      have hfz33_1 := blk_frozen BK192.out 1
                      have hfz33_2 := blk_frozen BK192.out 2
                      have hfz33_3 := blk_frozen BK192.out 3
                      go_wp2_with (first | ((with_reducible refine gate_callee (f := 65) rfl ?_); refine goesL_ (some 50) rfl rfl Try.func65 (by kernel_rfl) rfl #[.int .i64 a1_0] rfl (by (try simp only [List.map_toArray, List.map_cons, List.map_nil]); first | done | rfl | (simp only [List.length_drop, List.length_take]; rfl) | (simp [Act.eval]; omega)) ?_; (with_reducible refine (demurralref20_One.calls a1_0 false _ A25.out).mono ?_); rintro e w' ⟨rfl, ⟨nd, rfl⟩⟩; refine ⟨_, rfl, ?_⟩))
                      go_ret
                      exact ⟨by first | rfl | (simp [errW_none, errW_some] <;> rfl) | (simp [*, errW_none, errW_some] <;> rfl), by repeat (first | (with_reducible first | exact HB.out | apply below_alloc | apply pw_below_drewN | apply below_drew1 | refine below_set ?_ GE192.out) | exact HB.out)⟩
                  · rw [if_neg c28] at H
                    have c28b0 : decide (0 ≤ a1_3) = false := decide_eq_false c28
                    clear c28
                    obtain rfl := Option.some.inj H
                    have hcz34_0 : wc.cell? ⟨gb192, 0, none⟩ = some (.int .i64 a1_0) := (blk_cell BK192.out 0).trans rfl
                    have hcz34_1 : wc.cell? ⟨gb192, 1, none⟩ = some (.int .u64 a1_1) := (blk_cell BK192.out 1).trans rfl
                    have hcz34_2 : wc.cell? ⟨gb192, 2, none⟩ = some (.int .i64 a1_2) := (blk_cell BK192.out 2).trans rfl
                    have hcz34_3 : wc.cell? ⟨gb192, 3, none⟩ = some (.int .i64 a1_3) := (blk_cell BK192.out 3).trans rfl
                    have hfz34_0 := blk_frozen BK192.out 0
                    have hfz34_1 := blk_frozen BK192.out 1
                    have hfz34_2 := blk_frozen BK192.out 2
                    have hfz34_3 := blk_frozen BK192.out 3
                    go_wp2_with (first | ((with_reducible refine gate_callee (f := 65) rfl ?_); refine goesL_ (some 50) rfl rfl Try.func65 (by kernel_rfl) rfl #[.int .i64 a1_0] rfl (by (try simp only [List.map_toArray, List.map_cons, List.map_nil]); first | done | rfl | (simp only [List.length_drop, List.length_take]; rfl) | (simp [Act.eval]; omega)) ?_; (with_reducible refine (demurralref20_One.calls a1_0 false _ A25.out).mono ?_); rintro e w' ⟨rfl, ⟨nd, rfl⟩⟩; refine ⟨_, rfl, ?_⟩))
                    go_ret
                    exact ⟨by first | rfl | (simp [errW_none, errW_some] <;> rfl) | (simp [*, errW_none, errW_some] <;> rfl), by repeat (first | (with_reducible first | exact HB.out | apply below_alloc | apply pw_below_drewN | apply below_drew1 | refine below_set ?_ GE192.out) | exact HB.out)⟩

end Go.Proofs.Ytenmmeehgnkcpaa.Q
