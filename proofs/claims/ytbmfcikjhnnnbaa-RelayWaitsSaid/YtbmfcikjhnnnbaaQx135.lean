-- PRINTED by print.py (a twelfth state) out of the translation. Not trusted: Lean checks it.
import Derived.Test.YtbmfcikjhnnnbaaHStep
import Derived.Test.YtbmfcikjhnnnbaaQx0
import Derived.Test.YtbmfcikjhnnnbaaQx152
namespace Go.Proofs.Ytbmfcikjhnnnbaa.Q
open Go.RowKit Go.Proofs.YtbmfcikjhnnnbaaW.PrintWords Go.Proofs.YtbmfcikjhnnnbaaW.PrintLast Go.Proofs.YtbmfcikjhnnnbaaW.PrintMore
attribute [local go_sem] max2_int min2_int max_two min_two max_three min_three max_four min_four   -- for this text's walks alone
set_option linter.unusedVariables false
set_option linter.unusedSimpArgs false

/-! ### demurralref16_box: function 35 -/
mutual
def demurralref16_box.l0 : Nat → List (S54) → Int → Int → List (S57) → Int → Int → Int → List (S54) → Option (Bool)
  | 0, _, _, _, _, _, _, _, _ => none
  | k + 1, x10, x11, x12, x134000, x134001, x134002, x135000, x135001 => if x12 < x11 then (if 0 ≤ x12 then (if x12 < (x10.length : Int) then ((demurralref16_mail.f x134000 x134001 x134002 ((rd_T54 x10 x12).f0) ((rd_T54 x10 x12).f1) ((rd_T54 x10 x12).f2)).bind fun t137 => (if t137 = true then (if x12 ≤ (x135001.length : Int) then ((some (x135001.take (x12 : Int).toNat : List (S54))).bind fun y138 => (demurralref16_box.l1 k x10 x11 x12 y138 (y138.length : Int) 0 x134000 x134001 x134002 x135000 x135001 ((rd_T54 x10 x12).f0) ((rd_T54 x10 x12).f1) ((rd_T54 x10 x12).f2))) else (none)) else (some false))) else (none)) else (none)) else (if (x135001.length : Int) ≥ 1 then (some (decide ((x135001.length : Int) ≤ 16))) else (some false))
def demurralref16_box.l1 : Nat → List (S54) → Int → Int → List (S54) → Int → Int → List (S57) → Int → Int → Int → List (S54) → Int → ByteArray → Int → Option (Bool)
  | 0, _, _, _, _, _, _, _, _, _, _, _, _, _, _ => none
  | k + 1, x10, x11, x12, x24, x25, x26, x134000, x134001, x134002, x135000, x135001, x137000, x137001, x137002 => if x26 < x25 then (if 0 ≤ x26 then (if x26 < (x24.length : Int) then (if ((rd_T54 x24 x26).f0) ≥ x137000 then (some false) else (if ((rd_T54 x24 x26).f1).toList = x137001.toList then (some false) else (demurralref16_box.l1 k x10 x11 x12 x24 x25 (wrap64 (x26 + 1)) x134000 x134001 x134002 x135000 x135001 x137000 x137001 x137002))) else (none)) else (none)) else (demurralref16_box.l0 k x10 x11 (wrap64 (x12 + 1)) x134000 x134001 x134002 x135000 x135001)
end
def demurralref16_box.f (k : Nat) (l0_0 : List (S57)) (a0_1 : Int) (a0_2 : Int) (a1_0 : Int) (l1_1 : List (S54)) : Option (Bool) := demurralref16_box.l0 k l1_1 (l1_1.length : Int) 0 l0_0 a0_1 a0_2 a1_0 l1_1
theorem demurralref16_box.mono_l : ∀ k, (∀ y0 y1 y2 y3 y4 y5 y6 y7, LeO (demurralref16_box.l0 k y0 y1 y2 y3 y4 y5 y6 y7) (demurralref16_box.l0 (k + 1) y0 y1 y2 y3 y4 y5 y6 y7)) ∧ (∀ y0 y1 y2 y3 y4 y5 y6 y7 y8 y9 y10 y11 y12 y13, LeO (demurralref16_box.l1 k y0 y1 y2 y3 y4 y5 y6 y7 y8 y9 y10 y11 y12 y13) (demurralref16_box.l1 (k + 1) y0 y1 y2 y3 y4 y5 y6 y7 y8 y9 y10 y11 y12 y13))
  | 0 => ⟨fun _ _ _ _ _ _ _ _ r h => by simp [demurralref16_box.l0] at h, fun _ _ _ _ _ _ _ _ _ _ _ _ _ _ r h => by simp [demurralref16_box.l1] at h⟩
  | k + 1 => by
    obtain ⟨ih0, ih1⟩ := demurralref16_box.mono_l k
    refine ⟨?_, ?_⟩
    · intro y0 y1 y2 y3 y4 y5 y6 y7
      unfold demurralref16_box.l0
      repeat' first
      | (with_reducible exact ih0 _ _ _ _ _ _ _ _)
      | (with_reducible exact ih1 _ _ _ _ _ _ _ _ _ _ _ _ _ _)
      | (with_reducible exact LeO.refl _)
      | (with_reducible exact LeO.none _)
      | (with_reducible refine LeO.ite ?_ ?_)
      | (with_reducible refine LeO.bind ?_ (fun _ => ?_))
      | exact ih0 _ _ _ _ _ _ _ _
      | exact ih1 _ _ _ _ _ _ _ _ _ _ _ _ _ _
      | exact LeO.none _
      | refine LeO.ite ?_ ?_
      | refine LeO.bind ?_ (fun _ => ?_)
    · intro y0 y1 y2 y3 y4 y5 y6 y7 y8 y9 y10 y11 y12 y13
      unfold demurralref16_box.l1
      repeat' first
      | (with_reducible exact ih0 _ _ _ _ _ _ _ _)
      | (with_reducible exact ih1 _ _ _ _ _ _ _ _ _ _ _ _ _ _)
      | (with_reducible exact LeO.refl _)
      | (with_reducible exact LeO.none _)
      | (with_reducible refine LeO.ite ?_ ?_)
      | (with_reducible refine LeO.bind ?_ (fun _ => ?_))
      | exact ih0 _ _ _ _ _ _ _ _
      | exact ih1 _ _ _ _ _ _ _ _ _ _ _ _ _ _
      | exact LeO.none _
      | refine LeO.ite ?_ ?_
      | refine LeO.bind ?_ (fun _ => ?_)
theorem demurralref16_box.mono : ∀ a0 a1 a2 a3 a4 k, LeO (demurralref16_box.f k a0 a1 a2 a3 a4) (demurralref16_box.f (k + 1) a0 a1 a2 a3 a4) := by
  intro a0 a1 a2 a3 a4 k
  obtain ⟨ih0, ih1⟩ := demurralref16_box.mono_l k
  unfold demurralref16_box.f
  repeat' first
      | (with_reducible exact ih0 _ _ _ _ _ _ _ _)
      | (with_reducible exact ih1 _ _ _ _ _ _ _ _ _ _ _ _ _ _)
      | (with_reducible exact LeO.refl _)
      | (with_reducible exact LeO.none _)
      | (with_reducible refine LeO.ite ?_ ?_)
      | (with_reducible refine LeO.bind ?_ (fun _ => ?_))
      | exact ih0 _ _ _ _ _ _ _ _
      | exact ih1 _ _ _ _ _ _ _ _ _ _ _ _ _ _
      | exact LeO.none _
      | refine LeO.ite ?_ ?_
      | refine LeO.bind ?_ (fun _ => ?_)
set_option maxHeartbeats 8000000 in
set_option maxRecDepth 100000 in
theorem demurralref16_box.calls (k : Nat) (A0_0 : Option Addr) (c0_0 : Nat) (l0_0 : List (S57)) (a0_1 : Int) (a0_2 : Int) (a1_0 : Int) (A1_1 : Option Addr) (c1_1 : Nat) (l1_1 : List (S54)) (r : Bool) (w : World) (hr0_0 : Kd.C k57 w A0_0 l0_0.length l0_0) (hc0_0 : l0_0.length ≤ c0_0) (hr1_1 : Kd.C k54 w A1_1 l1_1.length l1_1) (hc1_1 : l1_1.length ≤ c1_1) (h : demurralref16_box.f k l0_0 a0_1 a0_2 a1_0 l1_1 = some r) :
    Calls Try.prog 35 #[.agg #[.slice A0_0 l0_0.length c0_0, .int .u64 a0_1, .int .u64 a0_2], .agg #[.int .u64 a1_0, .slice A1_1 l1_1.length c1_1]] w fun e w' => e = .returned (.bool r) ∧ Below w.heap.size w w' := by
  have hu25 := Try.underlying25
  have hu57 := Try.underlying57
  have hu54 := Try.underlying54
  have HR0_0 := Aside0.mk hr0_0
  have HC0_0 := Aside0.mk hc0_0
  clear hr0_0 hc0_0
  have HR1_1 := Aside0.mk hr1_1
  have HC1_1 := Aside0.mk hc1_1
  clear hr1_1 hc1_1
  have HB := Aside0.mk (Below.refl w.heap.size w)
  have H : (demurralref16_box.l0 k l1_1 (l1_1.length : Int) 0 l0_0 a0_1 a0_2 a1_0 l1_1) = some r := h
  clear h
  have H' := Aside0.mk H
  clear H
  go_enter Try.func35, Try.ntmps35
  go_wp2_with (first | ((with_reducible refine gate_dst (N := 2) rfl ?_); (try (refine gate_guard (by rfl) ?_; dsimp only)); refine box_event ?hg (N := 2) ?hd (cs := #[.slice A0_0 l0_0.length c0_0, .int .u64 a0_1, .int .u64 a0_2]) (t := 25) ?hr ?_; (case hd => rfl); (case hg => rfl); (case hr => first | (go_simp; done) | (go_simp; rfl)); intro gb133 hg w3 hbox hb; have n0_ := Aside0.mk (below_step (wb_ HB.out) hb); have n1_ := Aside0.mk (hbox); have n2_ := Aside0.mk ((by rw [hg]; exact (below_size (wb_ HB.out)) : w.heap.size ≤ gb133)); have n3_ := Aside0.mk ((by rw [hg]; exact (below_size (wb_ HB.out)) : w.heap.size ≤ gb133)); clear HB; have HB := n0_; have BK133 := n1_; have GW133 := n2_; have GE133 := n3_; clear n0_ n1_ n2_ n3_; clear hb hbox hg) | ((with_reducible refine gate_dst (N := 3) rfl ?_); (try (refine gate_guard (by rfl) ?_; dsimp only)); refine box_event ?hg (N := 3) ?hd (cs := #[.int .u64 a1_0, .slice A1_1 l1_1.length c1_1]) (t := 57) ?hr ?_; (case hd => rfl); (case hg => rfl); (case hr => first | (go_simp; done) | (go_simp; rfl)); intro gb134 hg w4 hbox hb; have n0_ := Aside0.mk (blk_below (g := gb133) (o := .cells #[.slice A0_0 l0_0.length c0_0, .int .u64 a0_1, .int .u64 a0_2] 25 (0, 0)) (vb_ BK133.out) hb); have n1_ := Aside0.mk (below_step (by repeat (first | (with_reducible first | exact HB.out | apply below_alloc | apply pw_below_drewN | apply below_drew1 | refine below_set ?_ GE133.out) | exact HB.out)) hb); have n2_ := Aside0.mk (hbox); have n3_ := Aside0.mk ((by rw [hg]; exact (below_size (by repeat (first | (with_reducible first | exact HB.out | apply below_alloc | apply pw_below_drewN | apply below_drew1 | refine below_set ?_ GE133.out) | exact HB.out))) : w.heap.size ≤ gb134)); have n4_ := Aside0.mk ((by rw [hg]; exact (below_size (by repeat (first | (with_reducible first | exact HB.out | apply below_alloc | apply pw_below_drewN | apply below_drew1 | refine below_set ?_ GE133.out) | exact HB.out))) : w.heap.size ≤ gb134)); have n5_ := Aside0.mk ((by rw [hg]; exact Nat.ne_of_lt (blk_lt (g := gb133) (o := .cells #[.slice A0_0 l0_0.length c0_0, .int .u64 a0_1, .int .u64 a0_2] 25 (0, 0)) (vb_ BK133.out)) : gb133 ≠ gb134)); have n6_ := Aside0.mk ((by rw [hg]; exact Nat.ne_of_gt (blk_lt (g := gb133) (o := .cells #[.slice A0_0 l0_0.length c0_0, .int .u64 a0_1, .int .u64 a0_2] 25 (0, 0)) (vb_ BK133.out)) : gb134 ≠ gb133)); clear BK133; clear HB; have BK133 := n0_; have HB := n1_; have BK134 := n2_; have GW134 := n3_; have GE134 := n4_; have NB133_134 := n5_; have NB134_133 := n6_; clear n0_ n1_ n2_ n3_ n4_ n5_ n6_; clear hb hbox hg; have hnb5 := NB134_133.out; have hnc5 := NB133_134.out; have hcz6_0 : w4.cell? ⟨gb134, 0, none⟩ = some (.int .u64 a1_0) := (blk_cell BK134.out 0).trans rfl; have hcz6_1 : w4.cell? ⟨gb134, 1, none⟩ = some (.slice A1_1 l1_1.length c1_1) := (blk_cell BK134.out 1).trans rfl; have hfz6_0 := blk_frozen BK134.out 0; have hfz6_1 := blk_frozen BK134.out 1))
  go_loopg [12] k (fun kq v12 w' => ∃ (x12_1 : Int), v12 = .int .i64 x12_1 ∧ Aside0 (demurralref16_box.l0 kq l1_1 (l1_1.length : Int) x12_1 l0_0 a0_1 a0_2 a1_0 l1_1 = some r) ∧ Aside0 (kq ≤ k) ∧ Aside0 (w'.heap[gb133]? = some (.cells #[(.slice A0_0 l0_0.length c0_0), .int .u64 a0_1, .int .u64 a0_2] 25 (0, 0))) ∧ Aside0 (w'.heap[gb134]? = some (.cells #[.int .u64 a1_0, (.slice A1_1 l1_1.length c1_1)] 57 (0, 0))) ∧ Aside0 (Below w.heap.size w w'))
  case atStart => exact ⟨(0), (by first | rfl | (simp; done) | (simp [*]; done)), H', ⟨Nat.le_refl _⟩, ⟨by (with_reducible repeat (first | refine blk_drewN ?_ _ | refine blk_drew ?_ | refine blk_alloc ?_ _)); exact BK133.out⟩, ⟨by (with_reducible repeat (first | refine blk_drewN ?_ _ | refine blk_drew ?_ | refine blk_alloc ?_ _)); exact BK134.out⟩, ⟨by repeat (first | (with_reducible first | exact HB.out | apply below_alloc | apply pw_below_drewN | apply below_drew1 | refine below_set ?_ GE133.out | refine below_set ?_ GE134.out) | exact HB.out)⟩⟩
  case round =>
    clear H'
    try clear c1
    try clear p2
    try clear c3
    try clear c5
    try clear hcz6_0
    try clear hcz6_1
    try clear hfz6_0
    try clear hfz6_1
    obtain ⟨x12_1, rfl, HA, HK1, BK133, BK134, HB⟩ := hrel
    cases gk with
    | zero => exact absurd HA.out (by simp [demurralref16_box.l0])
    | succ k1 =>
      have H := HA.out
      clear HA
      simp only [demurralref16_box.l0] at H
      by_cases c7 : x12_1 < (l1_1.length : Int)
      · rw [if_pos c7] at H
        have c7b0 : decide (x12_1 < (l1_1.length : Int)) = true := decide_eq_true c7
        clear c7
        by_cases c8 : 0 ≤ x12_1
        · rw [if_pos c8] at H
          have c8b0 : decide (0 ≤ x12_1) = true := decide_eq_true c8
          clear c8
          by_cases c9 : x12_1 < (l1_1.length : Int)
          · rw [if_pos c9] at H
            have c9b0 : decide (x12_1 < (l1_1.length : Int)) = true := decide_eq_true c9
            clear c9
            replace H := Option.bind_eq_some_iff.mp H
            obtain ⟨t137, A100, H⟩ := H
            replace H : (if t137 = true then (if x12_1 ≤ (l1_1.length : Int) then ((some (l1_1.take (x12_1 : Int).toNat : List (S54))).bind fun y138 => (demurralref16_box.l1 k1 l1_1 (l1_1.length : Int) x12_1 y138 (y138.length : Int) 0 l0_0 a0_1 a0_2 a1_0 l1_1 ((rd_T54 l1_1 x12_1).f0) ((rd_T54 l1_1 x12_1).f1) ((rd_T54 l1_1 x12_1).f2))) else (none)) else (some false)) = some r := H
            have A10 := Aside0.mk A100
            clear A100
            by_cases c11 : t137 = true
            · subst c11
              have H1 : (if x12_1 ≤ (l1_1.length : Int) then ((some (l1_1.take (x12_1 : Int).toNat : List (S54))).bind fun y138 => (demurralref16_box.l1 k1 l1_1 (l1_1.length : Int) x12_1 y138 (y138.length : Int) 0 l0_0 a0_1 a0_2 a1_0 l1_1 ((rd_T54 l1_1 x12_1).f0) ((rd_T54 l1_1 x12_1).f1) ((rd_T54 l1_1 x12_1).f2))) else (none)) = some r := by rw [if_pos rfl] at H; exact H
              clear H
              have H := H1
              clear H1
              have c12b0 := eq_true (of_decide_eq_true (by first | (with_reducible assumption) | assumption) : 0 ≤ x12_1)
              by_cases c13 : x12_1 ≤ (l1_1.length : Int)
              · rw [if_pos c13] at H
                have c13b0 := eq_true c13
                have c13b1 : decide (x12_1 ≤ (l1_1.length : Int)) = true := decide_eq_true c13
                clear c13
                obtain ⟨y138, hy138⟩ : ∃ y_ : List (S54), y_ = (l1_1.take (x12_1 : Int).toNat) := ⟨_, rfl⟩
                replace H : (demurralref16_box.l1 k1 l1_1 (l1_1.length : Int) x12_1 y138 (y138.length : Int) 0 l0_0 a0_1 a0_2 a1_0 l1_1 ((rd_T54 l1_1 x12_1).f0) ((rd_T54 l1_1 x12_1).f1) ((rd_T54 l1_1 x12_1).f2)) = some r := by first | (rw [hy138]; with_reducible exact H) | (have H2_ := (Option.bind_some _ _).symm.trans H; rw [hy138]; with_reducible exact H2_) | (have H2_ := (Option.bind_some _ _).symm.trans H; with_reducible exact H2_) | with_reducible exact H | (rw [hy138]; exact H) | exact H
                have Ny138 := Aside0.mk hy138
                clear hy138
                have H' := Aside0.mk H
                clear H
                have p135 : 0 ≤ (x12_1 : Int) := of_decide_eq_true (by first | (with_reducible assumption) | assumption)
                have q135 : x12_1 < (l1_1.length : Int) := of_decide_eq_true (by first | (with_reducible assumption) | assumption)
                obtain ⟨ad135, e135, hx135_0, hx135_1, hx135_2⟩ := at_T54 HR1_1.out x12_1 p135 q135
                cases e135
                replace hx135_0 := (HB.out.cell (World.block_lt_of_cell? w _ hx135_0)).trans hx135_0
                replace hx135_1 := (HB.out.cell (World.block_lt_of_cell? w _ hx135_1)).trans hx135_1
                replace hx135_2 := (HB.out.cell (World.block_lt_of_cell? w _ hx135_2)).trans hx135_2
                replace p135 := eq_true p135
                replace q135 := eq_true q135
                go_wp2_with (first | ((with_reducible refine gate_dst (N := 6) rfl ?_); (try (refine gate_guard (by rfl) ?_; dsimp only)); refine box_event ?hg (N := 6) ?hd (cs := #[.int .u64 0, .string (⟨#[]⟩ : ByteArray), .int .u64 0]) (t := 54) ?hr ?_; (case hd => rfl); (case hg => rfl); (case hr => first | (go_simp; done) | (go_simp; rfl)); intro gb136 hg w14 hbox hb; have n0_ := Aside0.mk (blk_below (g := gb133) (o := .cells #[.slice A0_0 l0_0.length c0_0, .int .u64 a0_1, .int .u64 a0_2] 25 (0, 0)) (vb_ BK133.out) hb); have n1_ := Aside0.mk (blk_below (g := gb134) (o := .cells #[.int .u64 a1_0, .slice (some ad135) l1_1.length c1_1] 57 (0, 0)) (vb_ BK134.out) hb); have n2_ := Aside0.mk (below_step (by repeat (first | (with_reducible first | exact HB.out | apply below_alloc | apply pw_below_drewN | apply below_drew1 | refine below_set ?_ GE133.out | refine below_set ?_ GE134.out) | exact HB.out)) hb); have n3_ := Aside0.mk (hbox); have n4_ := Aside0.mk ((by rw [hg]; exact (below_size (by repeat (first | (with_reducible first | exact HB.out | apply below_alloc | apply pw_below_drewN | apply below_drew1 | refine below_set ?_ GE133.out | refine below_set ?_ GE134.out) | exact HB.out))) : w.heap.size ≤ gb136)); have n5_ := Aside0.mk ((by rw [hg]; exact (below_size (by repeat (first | (with_reducible first | exact HB.out | apply below_alloc | apply pw_below_drewN | apply below_drew1 | refine below_set ?_ GE133.out | refine below_set ?_ GE134.out) | exact HB.out))) : w.heap.size ≤ gb136)); have n6_ := Aside0.mk ((by rw [hg]; exact Nat.ne_of_lt (blk_lt (g := gb133) (o := .cells #[.slice A0_0 l0_0.length c0_0, .int .u64 a0_1, .int .u64 a0_2] 25 (0, 0)) (vb_ BK133.out)) : gb133 ≠ gb136)); have n7_ := Aside0.mk ((by rw [hg]; exact Nat.ne_of_gt (blk_lt (g := gb133) (o := .cells #[.slice A0_0 l0_0.length c0_0, .int .u64 a0_1, .int .u64 a0_2] 25 (0, 0)) (vb_ BK133.out)) : gb136 ≠ gb133)); have n8_ := Aside0.mk ((by rw [hg]; exact Nat.ne_of_lt (blk_lt (g := gb134) (o := .cells #[.int .u64 a1_0, .slice (some ad135) l1_1.length c1_1] 57 (0, 0)) (vb_ BK134.out)) : gb134 ≠ gb136)); have n9_ := Aside0.mk ((by rw [hg]; exact Nat.ne_of_gt (blk_lt (g := gb134) (o := .cells #[.int .u64 a1_0, .slice (some ad135) l1_1.length c1_1] 57 (0, 0)) (vb_ BK134.out)) : gb136 ≠ gb134)); clear BK133; clear BK134; clear HB; have BK133 := n0_; have BK134 := n1_; have HB := n2_; have BK136 := n3_; have GW136 := n4_; have GE136 := n5_; have NB133_136 := n6_; have NB136_133 := n7_; have NB134_136 := n8_; have NB136_134 := n9_; clear n0_ n1_ n2_ n3_ n4_ n5_ n6_ n7_ n8_ n9_; clear hb hbox hg; have hnb15 := NB136_133.out; have hnc15 := NB133_136.out; have hnb16 := NB136_134.out; have hnc16 := NB134_136.out; have hcz17_0 : w14.cell? ⟨gb136, 0, none⟩ = some (.int .u64 0) := (blk_cell BK136.out 0).trans rfl; have hcz17_1 : w14.cell? ⟨gb136, 1, none⟩ = some (.string (⟨#[]⟩ : ByteArray)) := (blk_cell BK136.out 1).trans rfl; have hcz17_2 : w14.cell? ⟨gb136, 2, none⟩ = some (.int .u64 0) := (blk_cell BK136.out 2).trans rfl; have hfz17_0 := blk_frozen BK136.out 0; have hfz17_1 := blk_frozen BK136.out 1; have hfz17_2 := blk_frozen BK136.out 2; have hnb18 := NB133_134.out; have hnc18 := NB134_133.out; have hcz19_0 : w14.cell? ⟨gb133, 0, none⟩ = some (.slice A0_0 l0_0.length c0_0) := (blk_cell BK133.out 0).trans rfl; have hcz19_1 : w14.cell? ⟨gb133, 1, none⟩ = some (.int .u64 a0_1) := (blk_cell BK133.out 1).trans rfl; have hcz19_2 : w14.cell? ⟨gb133, 2, none⟩ = some (.int .u64 a0_2) := (blk_cell BK133.out 2).trans rfl; have hfz19_0 := blk_frozen BK133.out 0; have hfz19_1 := blk_frozen BK133.out 1; have hfz19_2 := blk_frozen BK133.out 2) | ((with_reducible refine gate_callee (f := 52) rfl ?_); refine goesL_ (some 19) rfl rfl Try.func52 (by kernel_rfl) rfl #[.agg #[.slice A0_0 l0_0.length c0_0, .int .u64 a0_1, .int .u64 a0_2], .agg #[.int .u64 ((rd_T54 l1_1 x12_1).f0), .string ((rd_T54 l1_1 x12_1).f1), .int .u64 ((rd_T54 l1_1 x12_1).f2)]] rfl (by (try simp only [List.map_toArray, List.map_cons, List.map_nil]); first | done | rfl | (simp only [List.length_drop, List.length_take]; rfl) | (simp [Act.eval]; omega)) ?_; (with_reducible refine (demurralref16_mail.calls _ _ l0_0 a0_1 a0_2 ((rd_T54 l1_1 x12_1).f0) ((rd_T54 l1_1 x12_1).f1) ((rd_T54 l1_1 x12_1).f2) true _ ?side1 ?side2 A10.out).mono ?_); (case side1 => exact Kd.C_below HR0_0.out (by repeat (first | (with_reducible first | exact HB.out | apply below_alloc | apply pw_below_drewN | apply below_drew1 | refine below_set ?_ GE133.out | refine below_set ?_ GE134.out | refine below_set ?_ GE136.out) | exact HB.out))); (case side2 => exact HC0_0.out); rintro e w20 ⟨rfl, hb⟩; refine ⟨_, rfl, ?_⟩; have n0_ := Aside0.mk (blk_below (g := gb133) (o := .cells #[.slice A0_0 l0_0.length c0_0, .int .u64 a0_1, .int .u64 a0_2] 25 (0, 0)) (by (with_reducible repeat (first | refine blk_drewN ?_ _ | refine blk_drew ?_ | refine blk_alloc ?_ _)); refine blk_far ?_ NB133_136.out _; (with_reducible repeat (first | refine blk_drewN ?_ _ | refine blk_drew ?_ | refine blk_alloc ?_ _)); refine blk_far ?_ NB133_136.out _; (with_reducible repeat (first | refine blk_drewN ?_ _ | refine blk_drew ?_ | refine blk_alloc ?_ _)); refine blk_far ?_ NB133_136.out _; (with_reducible repeat (first | refine blk_drewN ?_ _ | refine blk_drew ?_ | refine blk_alloc ?_ _)); exact BK133.out) hb); have n1_ := Aside0.mk (blk_below (g := gb134) (o := .cells #[.int .u64 a1_0, .slice (some ad135) l1_1.length c1_1] 57 (0, 0)) (by (with_reducible repeat (first | refine blk_drewN ?_ _ | refine blk_drew ?_ | refine blk_alloc ?_ _)); refine blk_far ?_ NB134_136.out _; (with_reducible repeat (first | refine blk_drewN ?_ _ | refine blk_drew ?_ | refine blk_alloc ?_ _)); refine blk_far ?_ NB134_136.out _; (with_reducible repeat (first | refine blk_drewN ?_ _ | refine blk_drew ?_ | refine blk_alloc ?_ _)); refine blk_far ?_ NB134_136.out _; (with_reducible repeat (first | refine blk_drewN ?_ _ | refine blk_drew ?_ | refine blk_alloc ?_ _)); exact BK134.out) hb); have n2_ := Aside0.mk (blk_below (g := gb136) (o := .cells #[.int .u64 ((rd_T54 l1_1 x12_1).f0), .string ((rd_T54 l1_1 x12_1).f1), .int .u64 ((rd_T54 l1_1 x12_1).f2)] 54 (0, 0)) (by (with_reducible repeat (first | refine blk_drewN ?_ _ | refine blk_drew ?_ | refine blk_alloc ?_ _)); refine blk_put (cs := #[.int .u64 ((rd_T54 l1_1 x12_1).f0), .string ((rd_T54 l1_1 x12_1).f1), .int .u64 0]) ?_ 2 _ rfl; (with_reducible repeat (first | refine blk_drewN ?_ _ | refine blk_drew ?_ | refine blk_alloc ?_ _)); refine blk_put (cs := #[.int .u64 ((rd_T54 l1_1 x12_1).f0), .string (⟨#[]⟩ : ByteArray), .int .u64 0]) ?_ 1 _ rfl; (with_reducible repeat (first | refine blk_drewN ?_ _ | refine blk_drew ?_ | refine blk_alloc ?_ _)); refine blk_put (cs := #[.int .u64 0, .string (⟨#[]⟩ : ByteArray), .int .u64 0]) ?_ 0 _ rfl; (with_reducible repeat (first | refine blk_drewN ?_ _ | refine blk_drew ?_ | refine blk_alloc ?_ _)); exact BK136.out) hb); have n3_ := Aside0.mk (below_step (by repeat (first | (with_reducible first | exact HB.out | apply below_alloc | apply pw_below_drewN | apply below_drew1 | refine below_set ?_ GE133.out | refine below_set ?_ GE134.out | refine below_set ?_ GE136.out) | exact HB.out)) hb); clear BK133; clear BK134; clear BK136; clear HB; have BK133 := n0_; have BK134 := n1_; have BK136 := n2_; have HB := n3_; clear n0_ n1_ n2_ n3_; (try clear hb); (try clear hb2); (try clear hk); (try clear hi); have hcz21_0 : w20.cell? ⟨gb134, 0, none⟩ = some (.int .u64 a1_0) := (blk_cell BK134.out 0).trans rfl; have hcz21_1 : w20.cell? ⟨gb134, 1, none⟩ = some (.slice (some ad135) l1_1.length c1_1) := (blk_cell BK134.out 1).trans rfl; have hfz21_0 := blk_frozen BK134.out 0; have hfz21_1 := blk_frozen BK134.out 1; have q22 : (x12_1 : Int) ≤ ((l1_1.length : Int) : Int) := of_decide_eq_true (by first | (with_reducible assumption) | assumption); obtain ⟨i022, hi022, _, hsz22, _⟩ := info_parts info54; have hroom22 : l1_1.length ≤ c1_1 := HC1_1.out; have hC22 : Kd.C k54 _ (some ad135) l1_1.length l1_1 := HR1_1.out; have hcut22 := cut_to (P := Try.prog) 39 54 .i64 Try.underlying39 hi022 (some ad135) l1_1.length c1_1 x12_1 (of_decide_eq_true (by first | (with_reducible assumption) | assumption)) q22 hroom22; have hr22 := Kd.C_take (m := (x12_1 : Int).toNat) hC22 (by omega); have hy22 : y138.length = (x12_1 : Int).toNat := (by rw [Ny138.out, List.length_take]; omega); rw [← Ny138.out] at hr22; rw [← hy22] at hcut22; have HR141 := Aside0.mk hr22; have HC141 := Aside0.mk (show y138.length ≤ c1_1 from by omega); clear hr22 hC22 hroom22 hi022 hsz22; have KY22 := Aside0.mk hy22; clear hy22; replace q22 := eq_true q22))
                go_loopg [26] k1 (fun kq v26 w' => ∃ (x26_2 : Int), v26 = .int .i64 x26_2 ∧ Aside0 (demurralref16_box.l1 kq l1_1 (l1_1.length : Int) x12_1 y138 (y138.length : Int) x26_2 l0_0 a0_1 a0_2 a1_0 l1_1 ((rd_T54 l1_1 x12_1).f0) ((rd_T54 l1_1 x12_1).f1) ((rd_T54 l1_1 x12_1).f2) = some r) ∧ Aside0 (kq ≤ k1) ∧ Aside0 (w'.heap[gb133]? = some (.cells #[(.slice A0_0 l0_0.length c0_0), .int .u64 a0_1, .int .u64 a0_2] 25 (0, 0))) ∧ Aside0 (w'.heap[gb134]? = some (.cells #[.int .u64 a1_0, (.slice (some ad135) l1_1.length c1_1)] 57 (0, 0))) ∧ Aside0 (w'.heap[gb136]? = some (.cells #[.int .u64 ((rd_T54 l1_1 x12_1).f0), .string ((rd_T54 l1_1 x12_1).f1), .int .u64 ((rd_T54 l1_1 x12_1).f2)] 54 (0, 0))) ∧ Aside0 (Below w.heap.size w w'))
                case atStart => exact ⟨(0), (by first | rfl | (simp; done) | (simp [*]; done)), H', ⟨Nat.le_refl _⟩, ⟨by (with_reducible repeat (first | refine blk_drewN ?_ _ | refine blk_drew ?_ | refine blk_alloc ?_ _)); exact BK133.out⟩, ⟨by (with_reducible repeat (first | refine blk_drewN ?_ _ | refine blk_drew ?_ | refine blk_alloc ?_ _)); exact BK134.out⟩, ⟨by (with_reducible repeat (first | refine blk_drewN ?_ _ | refine blk_drew ?_ | refine blk_alloc ?_ _)); exact BK136.out⟩, ⟨by repeat (first | (with_reducible first | exact HB.out | apply below_alloc | apply pw_below_drewN | apply below_drew1 | refine below_set ?_ GE133.out | refine below_set ?_ GE134.out | refine below_set ?_ GE136.out) | exact HB.out)⟩⟩
                case round =>
                  clear H'
                  try clear c1
                  try clear p1
                  try clear q1
                  try clear hx1
                  try clear p2
                  try clear q2
                  try clear c3
                  try clear c5
                  try clear c7
                  try clear c7b0
                  try clear c8
                  try clear c8b0
                  try clear c9
                  try clear c9b0
                  try clear c11
                  try clear c12
                  try clear c12b0
                  try clear c13
                  try clear c13b0
                  try clear c13b1
                  try clear p13
                  try clear q13
                  try clear hx13
                  try clear c15
                  try clear c16
                  try clear c18
                  try clear q22
                  try clear hcz17_0
                  try clear hcz17_1
                  try clear hcz17_2
                  try clear hcz19_0
                  try clear hcz19_1
                  try clear hcz19_2
                  try clear hcz21_0
                  try clear hcz21_1
                  try clear hcz6_0
                  try clear hcz6_1
                  try clear hfz17_0
                  try clear hfz17_1
                  try clear hfz17_2
                  try clear hfz19_0
                  try clear hfz19_1
                  try clear hfz19_2
                  try clear hfz21_0
                  try clear hfz21_1
                  try clear hfz6_0
                  try clear hfz6_1
                  try clear hx135_0
                  try clear hx135_1
                  try clear hx135_2
                  try clear p135
                  try clear p2
                  try clear q135
                  try clear q22
                  obtain ⟨x26_2, rfl, HA, HK2, BK133, BK134, BK136, HB⟩ := hrel
                  cases gk with
                  | zero => exact absurd HA.out (by simp [demurralref16_box.l1])
                  | succ k2 =>
                    have H := HA.out
                    clear HA
                    simp only [demurralref16_box.l1] at H
                    by_cases c23 : x26_2 < (y138.length : Int)
                    · rw [if_pos c23] at H
                      have c23b0 : decide (x26_2 < (y138.length : Int)) = true := decide_eq_true c23
                      clear c23
                      by_cases c24 : 0 ≤ x26_2
                      · rw [if_pos c24] at H
                        have c24b0 : decide (0 ≤ x26_2) = true := decide_eq_true c24
                        clear c24
                        by_cases c25 : x26_2 < (y138.length : Int)
                        · rw [if_pos c25] at H
                          have c25b0 : decide (x26_2 < (y138.length : Int)) = true := decide_eq_true c25
                          clear c25
                          by_cases c26 : ((rd_T54 y138 x26_2).f0) ≥ ((rd_T54 l1_1 x12_1).f0)
                          · rw [if_pos c26] at H
                            have c26b0 : decide (((rd_T54 l1_1 x12_1).f0) ≤ ((rd_T54 y138 x26_2).f0)) = true := decide_eq_true c26
                            clear c26
                            obtain rfl := Option.some.inj H
                            have p142 : 0 ≤ (x26_2 : Int) := of_decide_eq_true (by first | (with_reducible assumption) | assumption)
                            have q142 : x26_2 < (y138.length : Int) := of_decide_eq_true (by first | (with_reducible assumption) | assumption)
                            obtain ⟨ad142, e142, hx142_0, hx142_1, hx142_2⟩ := at_T54 HR141.out x26_2 p142 q142
                            obtain rfl : ad135 = ad142 := (by injection e142)
                            replace hx142_0 := (HB.out.cell (World.block_lt_of_cell? w _ hx142_0)).trans hx142_0
                            replace hx142_1 := (HB.out.cell (World.block_lt_of_cell? w _ hx142_1)).trans hx142_1
                            replace hx142_2 := (HB.out.cell (World.block_lt_of_cell? w _ hx142_2)).trans hx142_2
                            replace p142 := eq_true p142
                            replace q142 := eq_true q142
                            go_wp2_with (first | ((with_reducible refine gate_dst (N := 8) rfl ?_); (try (refine gate_guard (by rfl) ?_; dsimp only)); refine box_event ?hg (N := 8) ?hd (cs := #[.int .u64 0, .string (⟨#[]⟩ : ByteArray), .int .u64 0]) (t := 54) ?hr ?_; (case hd => rfl); (case hg => rfl); (case hr => first | (go_simp; done) | (go_simp; rfl)); intro gb143 hg w27 hbox hb; have n0_ := Aside0.mk (blk_below (g := gb133) (o := .cells #[.slice A0_0 l0_0.length c0_0, .int .u64 a0_1, .int .u64 a0_2] 25 (0, 0)) (vb_ BK133.out) hb); have n1_ := Aside0.mk (blk_below (g := gb134) (o := .cells #[.int .u64 a1_0, .slice (some ad135) l1_1.length c1_1] 57 (0, 0)) (vb_ BK134.out) hb); have n2_ := Aside0.mk (blk_below (g := gb136) (o := .cells #[.int .u64 ((rd_T54 l1_1 x12_1).f0), .string ((rd_T54 l1_1 x12_1).f1), .int .u64 ((rd_T54 l1_1 x12_1).f2)] 54 (0, 0)) (vb_ BK136.out) hb); have n3_ := Aside0.mk (below_step (by repeat (first | (with_reducible first | exact HB.out | apply below_alloc | apply pw_below_drewN | apply below_drew1 | refine below_set ?_ GE133.out | refine below_set ?_ GE134.out | refine below_set ?_ GE136.out) | exact HB.out)) hb); have n4_ := Aside0.mk (hbox); have n5_ := Aside0.mk ((by rw [hg]; exact (below_size (by repeat (first | (with_reducible first | exact HB.out | apply below_alloc | apply pw_below_drewN | apply below_drew1 | refine below_set ?_ GE133.out | refine below_set ?_ GE134.out | refine below_set ?_ GE136.out) | exact HB.out))) : w.heap.size ≤ gb143)); have n6_ := Aside0.mk ((by rw [hg]; exact (below_size (by repeat (first | (with_reducible first | exact HB.out | apply below_alloc | apply pw_below_drewN | apply below_drew1 | refine below_set ?_ GE133.out | refine below_set ?_ GE134.out | refine below_set ?_ GE136.out) | exact HB.out))) : w.heap.size ≤ gb143)); have n7_ := Aside0.mk ((by rw [hg]; exact Nat.ne_of_lt (blk_lt (g := gb133) (o := .cells #[.slice A0_0 l0_0.length c0_0, .int .u64 a0_1, .int .u64 a0_2] 25 (0, 0)) (vb_ BK133.out)) : gb133 ≠ gb143)); have n8_ := Aside0.mk ((by rw [hg]; exact Nat.ne_of_gt (blk_lt (g := gb133) (o := .cells #[.slice A0_0 l0_0.length c0_0, .int .u64 a0_1, .int .u64 a0_2] 25 (0, 0)) (vb_ BK133.out)) : gb143 ≠ gb133)); have n9_ := Aside0.mk ((by rw [hg]; exact Nat.ne_of_lt (blk_lt (g := gb134) (o := .cells #[.int .u64 a1_0, .slice (some ad135) l1_1.length c1_1] 57 (0, 0)) (vb_ BK134.out)) : gb134 ≠ gb143)); have n10_ := Aside0.mk ((by rw [hg]; exact Nat.ne_of_gt (blk_lt (g := gb134) (o := .cells #[.int .u64 a1_0, .slice (some ad135) l1_1.length c1_1] 57 (0, 0)) (vb_ BK134.out)) : gb143 ≠ gb134)); have n11_ := Aside0.mk ((by rw [hg]; exact Nat.ne_of_lt (blk_lt (g := gb136) (o := .cells #[.int .u64 ((rd_T54 l1_1 x12_1).f0), .string ((rd_T54 l1_1 x12_1).f1), .int .u64 ((rd_T54 l1_1 x12_1).f2)] 54 (0, 0)) (vb_ BK136.out)) : gb136 ≠ gb143)); have n12_ := Aside0.mk ((by rw [hg]; exact Nat.ne_of_gt (blk_lt (g := gb136) (o := .cells #[.int .u64 ((rd_T54 l1_1 x12_1).f0), .string ((rd_T54 l1_1 x12_1).f1), .int .u64 ((rd_T54 l1_1 x12_1).f2)] 54 (0, 0)) (vb_ BK136.out)) : gb143 ≠ gb136)); clear BK133; clear BK134; clear BK136; clear HB; have BK133 := n0_; have BK134 := n1_; have BK136 := n2_; have HB := n3_; have BK143 := n4_; have GW143 := n5_; have GE143 := n6_; have NB133_143 := n7_; have NB143_133 := n8_; have NB134_143 := n9_; have NB143_134 := n10_; have NB136_143 := n11_; have NB143_136 := n12_; clear n0_ n1_ n2_ n3_ n4_ n5_ n6_ n7_ n8_ n9_ n10_ n11_ n12_; clear hb hbox hg; have hnb28 := NB143_133.out; have hnc28 := NB133_143.out; have hnb29 := NB143_134.out; have hnc29 := NB134_143.out; have hnb30 := NB143_136.out; have hnc30 := NB136_143.out; have hcz31_0 : w27.cell? ⟨gb143, 0, none⟩ = some (.int .u64 0) := (blk_cell BK143.out 0).trans rfl; have hcz31_1 : w27.cell? ⟨gb143, 1, none⟩ = some (.string (⟨#[]⟩ : ByteArray)) := (blk_cell BK143.out 1).trans rfl; have hcz31_2 : w27.cell? ⟨gb143, 2, none⟩ = some (.int .u64 0) := (blk_cell BK143.out 2).trans rfl; have hfz31_0 := blk_frozen BK143.out 0; have hfz31_1 := blk_frozen BK143.out 1; have hfz31_2 := blk_frozen BK143.out 2; have hnb32 := NB136_133.out; have hnc32 := NB133_136.out; have hnb33 := NB136_134.out; have hnc33 := NB134_136.out; have hcz34_0 : w27.cell? ⟨gb136, 0, none⟩ = some (.int .u64 ((rd_T54 l1_1 x12_1).f0)) := (blk_cell BK136.out 0).trans rfl; have hcz34_1 : w27.cell? ⟨gb136, 1, none⟩ = some (.string ((rd_T54 l1_1 x12_1).f1)) := (blk_cell BK136.out 1).trans rfl; have hcz34_2 : w27.cell? ⟨gb136, 2, none⟩ = some (.int .u64 ((rd_T54 l1_1 x12_1).f2)) := (blk_cell BK136.out 2).trans rfl; have hfz34_0 := blk_frozen BK136.out 0; have hfz34_1 := blk_frozen BK136.out 1; have hfz34_2 := blk_frozen BK136.out 2))
                            go_ret
                            exact ⟨by first | rfl | (simp [errW_none, errW_some] <;> rfl) | (simp [*, errW_none, errW_some] <;> rfl), by repeat (first | (with_reducible first | exact HB.out | apply below_alloc | apply pw_below_drewN | apply below_drew1 | refine below_set ?_ GE133.out | refine below_set ?_ GE134.out | refine below_set ?_ GE136.out | refine below_set ?_ GE143.out) | exact HB.out)⟩
                          · rw [if_neg c26] at H
                            have c26b0 : decide (((rd_T54 l1_1 x12_1).f0) ≤ ((rd_T54 y138 x26_2).f0)) = false := decide_eq_false c26
                            clear c26
                            by_cases c35 : ((rd_T54 y138 x26_2).f1).toList = ((rd_T54 l1_1 x12_1).f1).toList
                            · rw [if_pos c35] at H
                              have c35b0 : (((rd_T54 y138 x26_2).f1).toList == ((rd_T54 l1_1 x12_1).f1).toList) = true := beq_iff_eq.mpr c35
                              have c35b1 : (((rd_T54 y138 x26_2).f1).toList != ((rd_T54 l1_1 x12_1).f1).toList) = false := bne_eq_false_iff_eq.mpr c35
                              clear c35
                              obtain rfl := Option.some.inj H
                              have p142 : 0 ≤ (x26_2 : Int) := of_decide_eq_true (by first | (with_reducible assumption) | assumption)
                              have q142 : x26_2 < (y138.length : Int) := of_decide_eq_true (by first | (with_reducible assumption) | assumption)
                              obtain ⟨ad142, e142, hx142_0, hx142_1, hx142_2⟩ := at_T54 HR141.out x26_2 p142 q142
                              obtain rfl : ad135 = ad142 := (by injection e142)
                              replace hx142_0 := (HB.out.cell (World.block_lt_of_cell? w _ hx142_0)).trans hx142_0
                              replace hx142_1 := (HB.out.cell (World.block_lt_of_cell? w _ hx142_1)).trans hx142_1
                              replace hx142_2 := (HB.out.cell (World.block_lt_of_cell? w _ hx142_2)).trans hx142_2
                              replace p142 := eq_true p142
                              replace q142 := eq_true q142
                              go_wp2_with (first | ((with_reducible refine gate_dst (N := 8) rfl ?_); (try (refine gate_guard (by rfl) ?_; dsimp only)); refine box_event ?hg (N := 8) ?hd (cs := #[.int .u64 0, .string (⟨#[]⟩ : ByteArray), .int .u64 0]) (t := 54) ?hr ?_; (case hd => rfl); (case hg => rfl); (case hr => first | (go_simp; done) | (go_simp; rfl)); intro gb143 hg w36 hbox hb; have n0_ := Aside0.mk (blk_below (g := gb133) (o := .cells #[.slice A0_0 l0_0.length c0_0, .int .u64 a0_1, .int .u64 a0_2] 25 (0, 0)) (vb_ BK133.out) hb); have n1_ := Aside0.mk (blk_below (g := gb134) (o := .cells #[.int .u64 a1_0, .slice (some ad135) l1_1.length c1_1] 57 (0, 0)) (vb_ BK134.out) hb); have n2_ := Aside0.mk (blk_below (g := gb136) (o := .cells #[.int .u64 ((rd_T54 l1_1 x12_1).f0), .string ((rd_T54 l1_1 x12_1).f1), .int .u64 ((rd_T54 l1_1 x12_1).f2)] 54 (0, 0)) (vb_ BK136.out) hb); have n3_ := Aside0.mk (below_step (by repeat (first | (with_reducible first | exact HB.out | apply below_alloc | apply pw_below_drewN | apply below_drew1 | refine below_set ?_ GE133.out | refine below_set ?_ GE134.out | refine below_set ?_ GE136.out) | exact HB.out)) hb); have n4_ := Aside0.mk (hbox); have n5_ := Aside0.mk ((by rw [hg]; exact (below_size (by repeat (first | (with_reducible first | exact HB.out | apply below_alloc | apply pw_below_drewN | apply below_drew1 | refine below_set ?_ GE133.out | refine below_set ?_ GE134.out | refine below_set ?_ GE136.out) | exact HB.out))) : w.heap.size ≤ gb143)); have n6_ := Aside0.mk ((by rw [hg]; exact (below_size (by repeat (first | (with_reducible first | exact HB.out | apply below_alloc | apply pw_below_drewN | apply below_drew1 | refine below_set ?_ GE133.out | refine below_set ?_ GE134.out | refine below_set ?_ GE136.out) | exact HB.out))) : w.heap.size ≤ gb143)); have n7_ := Aside0.mk ((by rw [hg]; exact Nat.ne_of_lt (blk_lt (g := gb133) (o := .cells #[.slice A0_0 l0_0.length c0_0, .int .u64 a0_1, .int .u64 a0_2] 25 (0, 0)) (vb_ BK133.out)) : gb133 ≠ gb143)); have n8_ := Aside0.mk ((by rw [hg]; exact Nat.ne_of_gt (blk_lt (g := gb133) (o := .cells #[.slice A0_0 l0_0.length c0_0, .int .u64 a0_1, .int .u64 a0_2] 25 (0, 0)) (vb_ BK133.out)) : gb143 ≠ gb133)); have n9_ := Aside0.mk ((by rw [hg]; exact Nat.ne_of_lt (blk_lt (g := gb134) (o := .cells #[.int .u64 a1_0, .slice (some ad135) l1_1.length c1_1] 57 (0, 0)) (vb_ BK134.out)) : gb134 ≠ gb143)); have n10_ := Aside0.mk ((by rw [hg]; exact Nat.ne_of_gt (blk_lt (g := gb134) (o := .cells #[.int .u64 a1_0, .slice (some ad135) l1_1.length c1_1] 57 (0, 0)) (vb_ BK134.out)) : gb143 ≠ gb134)); have n11_ := Aside0.mk ((by rw [hg]; exact Nat.ne_of_lt (blk_lt (g := gb136) (o := .cells #[.int .u64 ((rd_T54 l1_1 x12_1).f0), .string ((rd_T54 l1_1 x12_1).f1), .int .u64 ((rd_T54 l1_1 x12_1).f2)] 54 (0, 0)) (vb_ BK136.out)) : gb136 ≠ gb143)); have n12_ := Aside0.mk ((by rw [hg]; exact Nat.ne_of_gt (blk_lt (g := gb136) (o := .cells #[.int .u64 ((rd_T54 l1_1 x12_1).f0), .string ((rd_T54 l1_1 x12_1).f1), .int .u64 ((rd_T54 l1_1 x12_1).f2)] 54 (0, 0)) (vb_ BK136.out)) : gb143 ≠ gb136)); clear BK133; clear BK134; clear BK136; clear HB; have BK133 := n0_; have BK134 := n1_; have BK136 := n2_; have HB := n3_; have BK143 := n4_; have GW143 := n5_; have GE143 := n6_; have NB133_143 := n7_; have NB143_133 := n8_; have NB134_143 := n9_; have NB143_134 := n10_; have NB136_143 := n11_; have NB143_136 := n12_; clear n0_ n1_ n2_ n3_ n4_ n5_ n6_ n7_ n8_ n9_ n10_ n11_ n12_; clear hb hbox hg; have hnb37 := NB143_133.out; have hnc37 := NB133_143.out; have hnb38 := NB143_134.out; have hnc38 := NB134_143.out; have hnb39 := NB143_136.out; have hnc39 := NB136_143.out; have hcz40_0 : w36.cell? ⟨gb143, 0, none⟩ = some (.int .u64 0) := (blk_cell BK143.out 0).trans rfl; have hcz40_1 : w36.cell? ⟨gb143, 1, none⟩ = some (.string (⟨#[]⟩ : ByteArray)) := (blk_cell BK143.out 1).trans rfl; have hcz40_2 : w36.cell? ⟨gb143, 2, none⟩ = some (.int .u64 0) := (blk_cell BK143.out 2).trans rfl; have hfz40_0 := blk_frozen BK143.out 0; have hfz40_1 := blk_frozen BK143.out 1; have hfz40_2 := blk_frozen BK143.out 2; have hnb41 := NB136_133.out; have hnc41 := NB133_136.out; have hnb42 := NB136_134.out; have hnc42 := NB134_136.out; have hcz43_0 : w36.cell? ⟨gb136, 0, none⟩ = some (.int .u64 ((rd_T54 l1_1 x12_1).f0)) := (blk_cell BK136.out 0).trans rfl; have hcz43_1 : w36.cell? ⟨gb136, 1, none⟩ = some (.string ((rd_T54 l1_1 x12_1).f1)) := (blk_cell BK136.out 1).trans rfl; have hcz43_2 : w36.cell? ⟨gb136, 2, none⟩ = some (.int .u64 ((rd_T54 l1_1 x12_1).f2)) := (blk_cell BK136.out 2).trans rfl; have hfz43_0 := blk_frozen BK136.out 0; have hfz43_1 := blk_frozen BK136.out 1; have hfz43_2 := blk_frozen BK136.out 2))
                              go_ret
                              exact ⟨by first | rfl | (simp [errW_none, errW_some] <;> rfl) | (simp [*, errW_none, errW_some] <;> rfl), by repeat (first | (with_reducible first | exact HB.out | apply below_alloc | apply pw_below_drewN | apply below_drew1 | refine below_set ?_ GE133.out | refine below_set ?_ GE134.out | refine below_set ?_ GE136.out | refine below_set ?_ GE143.out) | exact HB.out)⟩
                            · rw [if_neg c35] at H
                              have c35b0 : (((rd_T54 y138 x26_2).f1).toList == ((rd_T54 l1_1 x12_1).f1).toList) = false := beq_eq_false_iff_ne.mpr c35
                              have c35b1 : (((rd_T54 y138 x26_2).f1).toList != ((rd_T54 l1_1 x12_1).f1).toList) = true := bne_iff_ne.mpr c35
                              have H' := Aside0.mk H
                              clear H
                              have p142 : 0 ≤ (x26_2 : Int) := of_decide_eq_true (by first | (with_reducible assumption) | assumption)
                              have q142 : x26_2 < (y138.length : Int) := of_decide_eq_true (by first | (with_reducible assumption) | assumption)
                              obtain ⟨ad142, e142, hx142_0, hx142_1, hx142_2⟩ := at_T54 HR141.out x26_2 p142 q142
                              obtain rfl : ad135 = ad142 := (by injection e142)
                              replace hx142_0 := (HB.out.cell (World.block_lt_of_cell? w _ hx142_0)).trans hx142_0
                              replace hx142_1 := (HB.out.cell (World.block_lt_of_cell? w _ hx142_1)).trans hx142_1
                              replace hx142_2 := (HB.out.cell (World.block_lt_of_cell? w _ hx142_2)).trans hx142_2
                              replace p142 := eq_true p142
                              replace q142 := eq_true q142
                              go_wp2_with (first | ((with_reducible refine gate_dst (N := 8) rfl ?_); (try (refine gate_guard (by rfl) ?_; dsimp only)); refine box_event ?hg (N := 8) ?hd (cs := #[.int .u64 0, .string (⟨#[]⟩ : ByteArray), .int .u64 0]) (t := 54) ?hr ?_; (case hd => rfl); (case hg => rfl); (case hr => first | (go_simp; done) | (go_simp; rfl)); intro gb143 hg w44 hbox hb; have n0_ := Aside0.mk (blk_below (g := gb133) (o := .cells #[.slice A0_0 l0_0.length c0_0, .int .u64 a0_1, .int .u64 a0_2] 25 (0, 0)) (vb_ BK133.out) hb); have n1_ := Aside0.mk (blk_below (g := gb134) (o := .cells #[.int .u64 a1_0, .slice (some ad135) l1_1.length c1_1] 57 (0, 0)) (vb_ BK134.out) hb); have n2_ := Aside0.mk (blk_below (g := gb136) (o := .cells #[.int .u64 ((rd_T54 l1_1 x12_1).f0), .string ((rd_T54 l1_1 x12_1).f1), .int .u64 ((rd_T54 l1_1 x12_1).f2)] 54 (0, 0)) (vb_ BK136.out) hb); have n3_ := Aside0.mk (below_step (by repeat (first | (with_reducible first | exact HB.out | apply below_alloc | apply pw_below_drewN | apply below_drew1 | refine below_set ?_ GE133.out | refine below_set ?_ GE134.out | refine below_set ?_ GE136.out) | exact HB.out)) hb); have n4_ := Aside0.mk (hbox); have n5_ := Aside0.mk ((by rw [hg]; exact (below_size (by repeat (first | (with_reducible first | exact HB.out | apply below_alloc | apply pw_below_drewN | apply below_drew1 | refine below_set ?_ GE133.out | refine below_set ?_ GE134.out | refine below_set ?_ GE136.out) | exact HB.out))) : w.heap.size ≤ gb143)); have n6_ := Aside0.mk ((by rw [hg]; exact (below_size (by repeat (first | (with_reducible first | exact HB.out | apply below_alloc | apply pw_below_drewN | apply below_drew1 | refine below_set ?_ GE133.out | refine below_set ?_ GE134.out | refine below_set ?_ GE136.out) | exact HB.out))) : w.heap.size ≤ gb143)); have n7_ := Aside0.mk ((by rw [hg]; exact Nat.ne_of_lt (blk_lt (g := gb133) (o := .cells #[.slice A0_0 l0_0.length c0_0, .int .u64 a0_1, .int .u64 a0_2] 25 (0, 0)) (vb_ BK133.out)) : gb133 ≠ gb143)); have n8_ := Aside0.mk ((by rw [hg]; exact Nat.ne_of_gt (blk_lt (g := gb133) (o := .cells #[.slice A0_0 l0_0.length c0_0, .int .u64 a0_1, .int .u64 a0_2] 25 (0, 0)) (vb_ BK133.out)) : gb143 ≠ gb133)); have n9_ := Aside0.mk ((by rw [hg]; exact Nat.ne_of_lt (blk_lt (g := gb134) (o := .cells #[.int .u64 a1_0, .slice (some ad135) l1_1.length c1_1] 57 (0, 0)) (vb_ BK134.out)) : gb134 ≠ gb143)); have n10_ := Aside0.mk ((by rw [hg]; exact Nat.ne_of_gt (blk_lt (g := gb134) (o := .cells #[.int .u64 a1_0, .slice (some ad135) l1_1.length c1_1] 57 (0, 0)) (vb_ BK134.out)) : gb143 ≠ gb134)); have n11_ := Aside0.mk ((by rw [hg]; exact Nat.ne_of_lt (blk_lt (g := gb136) (o := .cells #[.int .u64 ((rd_T54 l1_1 x12_1).f0), .string ((rd_T54 l1_1 x12_1).f1), .int .u64 ((rd_T54 l1_1 x12_1).f2)] 54 (0, 0)) (vb_ BK136.out)) : gb136 ≠ gb143)); have n12_ := Aside0.mk ((by rw [hg]; exact Nat.ne_of_gt (blk_lt (g := gb136) (o := .cells #[.int .u64 ((rd_T54 l1_1 x12_1).f0), .string ((rd_T54 l1_1 x12_1).f1), .int .u64 ((rd_T54 l1_1 x12_1).f2)] 54 (0, 0)) (vb_ BK136.out)) : gb143 ≠ gb136)); clear BK133; clear BK134; clear BK136; clear HB; have BK133 := n0_; have BK134 := n1_; have BK136 := n2_; have HB := n3_; have BK143 := n4_; have GW143 := n5_; have GE143 := n6_; have NB133_143 := n7_; have NB143_133 := n8_; have NB134_143 := n9_; have NB143_134 := n10_; have NB136_143 := n11_; have NB143_136 := n12_; clear n0_ n1_ n2_ n3_ n4_ n5_ n6_ n7_ n8_ n9_ n10_ n11_ n12_; clear hb hbox hg; have hnb45 := NB143_133.out; have hnc45 := NB133_143.out; have hnb46 := NB143_134.out; have hnc46 := NB134_143.out; have hnb47 := NB143_136.out; have hnc47 := NB136_143.out; have hcz48_0 : w44.cell? ⟨gb143, 0, none⟩ = some (.int .u64 0) := (blk_cell BK143.out 0).trans rfl; have hcz48_1 : w44.cell? ⟨gb143, 1, none⟩ = some (.string (⟨#[]⟩ : ByteArray)) := (blk_cell BK143.out 1).trans rfl; have hcz48_2 : w44.cell? ⟨gb143, 2, none⟩ = some (.int .u64 0) := (blk_cell BK143.out 2).trans rfl; have hfz48_0 := blk_frozen BK143.out 0; have hfz48_1 := blk_frozen BK143.out 1; have hfz48_2 := blk_frozen BK143.out 2; have hnb49 := NB136_133.out; have hnc49 := NB133_136.out; have hnb50 := NB136_134.out; have hnc50 := NB134_136.out; have hcz51_0 : w44.cell? ⟨gb136, 0, none⟩ = some (.int .u64 ((rd_T54 l1_1 x12_1).f0)) := (blk_cell BK136.out 0).trans rfl; have hcz51_1 : w44.cell? ⟨gb136, 1, none⟩ = some (.string ((rd_T54 l1_1 x12_1).f1)) := (blk_cell BK136.out 1).trans rfl; have hcz51_2 : w44.cell? ⟨gb136, 2, none⟩ = some (.int .u64 ((rd_T54 l1_1 x12_1).f2)) := (blk_cell BK136.out 2).trans rfl; have hfz51_0 := blk_frozen BK136.out 0; have hfz51_1 := blk_frozen BK136.out 1; have hfz51_2 := blk_frozen BK136.out 2))
                              go_roundg k2
                              case measure => have := HK1.out; have := HK2.out; omega
                              case rel => exact ⟨(wrap64 (x26_2 + 1)), (by first | rfl | (simp; done) | (simp [*]; done)), H', ⟨by have := HK1.out; have := HK2.out; omega⟩, ⟨by (with_reducible repeat (first | refine blk_drewN ?_ _ | refine blk_drew ?_ | refine blk_alloc ?_ _)); refine blk_far ?_ NB133_143.out _; (with_reducible repeat (first | refine blk_drewN ?_ _ | refine blk_drew ?_ | refine blk_alloc ?_ _)); refine blk_far ?_ NB133_143.out _; (with_reducible repeat (first | refine blk_drewN ?_ _ | refine blk_drew ?_ | refine blk_alloc ?_ _)); refine blk_far ?_ NB133_143.out _; (with_reducible repeat (first | refine blk_drewN ?_ _ | refine blk_drew ?_ | refine blk_alloc ?_ _)); exact BK133.out⟩, ⟨by (with_reducible repeat (first | refine blk_drewN ?_ _ | refine blk_drew ?_ | refine blk_alloc ?_ _)); refine blk_far ?_ NB134_143.out _; (with_reducible repeat (first | refine blk_drewN ?_ _ | refine blk_drew ?_ | refine blk_alloc ?_ _)); refine blk_far ?_ NB134_143.out _; (with_reducible repeat (first | refine blk_drewN ?_ _ | refine blk_drew ?_ | refine blk_alloc ?_ _)); refine blk_far ?_ NB134_143.out _; (with_reducible repeat (first | refine blk_drewN ?_ _ | refine blk_drew ?_ | refine blk_alloc ?_ _)); exact BK134.out⟩, ⟨by (with_reducible repeat (first | refine blk_drewN ?_ _ | refine blk_drew ?_ | refine blk_alloc ?_ _)); refine blk_far ?_ NB136_143.out _; (with_reducible repeat (first | refine blk_drewN ?_ _ | refine blk_drew ?_ | refine blk_alloc ?_ _)); refine blk_far ?_ NB136_143.out _; (with_reducible repeat (first | refine blk_drewN ?_ _ | refine blk_drew ?_ | refine blk_alloc ?_ _)); refine blk_far ?_ NB136_143.out _; (with_reducible repeat (first | refine blk_drewN ?_ _ | refine blk_drew ?_ | refine blk_alloc ?_ _)); exact BK136.out⟩, ⟨by repeat (first | (with_reducible first | exact HB.out | apply below_alloc | apply pw_below_drewN | apply below_drew1 | refine below_set ?_ GE133.out | refine below_set ?_ GE134.out | refine below_set ?_ GE136.out | refine below_set ?_ GE143.out) | exact HB.out)⟩⟩
                        · rw [if_neg c25] at H
                          exact absurd H (by simp)
                      · rw [if_neg c24] at H
                        exact absurd H (by simp)
                    · rw [if_neg c23] at H
                      have c23b0 : decide (x26_2 < (y138.length : Int)) = false := decide_eq_false c23
                      clear c23
                      have H' := Aside0.mk H
                      clear H
                      go_wp2
                      go_roundg k2
                      case measure => have := HK1.out; have := HK2.out; omega
                      case rel => exact ⟨(wrap64 (x12_1 + 1)), (by first | rfl | (simp; done) | (simp [*]; done)), H', ⟨by have := HK1.out; have := HK2.out; omega⟩, ⟨by (with_reducible repeat (first | refine blk_drewN ?_ _ | refine blk_drew ?_ | refine blk_alloc ?_ _)); exact BK133.out⟩, ⟨by (with_reducible repeat (first | refine blk_drewN ?_ _ | refine blk_drew ?_ | refine blk_alloc ?_ _)); exact BK134.out⟩, ⟨by repeat (first | (with_reducible first | exact HB.out | apply below_alloc | apply pw_below_drewN | apply below_drew1 | refine below_set ?_ GE133.out | refine below_set ?_ GE134.out | refine below_set ?_ GE136.out) | exact HB.out)⟩⟩
              · rw [if_neg c13] at H
                exact absurd H (by simp)
            · replace c11 := Bool.eq_false_iff.mpr c11
              subst c11
              have H1 : (some false) = some r := by rw [if_neg (show ¬ (false = true) by decide)] at H; exact H
              clear H
              have H := H1
              clear H1
              obtain rfl := Option.some.inj H
              have p135 : 0 ≤ (x12_1 : Int) := of_decide_eq_true (by first | (with_reducible assumption) | assumption)
              have q135 : x12_1 < (l1_1.length : Int) := of_decide_eq_true (by first | (with_reducible assumption) | assumption)
              obtain ⟨ad135, e135, hx135_0, hx135_1, hx135_2⟩ := at_T54 HR1_1.out x12_1 p135 q135
              cases e135
              replace hx135_0 := (HB.out.cell (World.block_lt_of_cell? w _ hx135_0)).trans hx135_0
              replace hx135_1 := (HB.out.cell (World.block_lt_of_cell? w _ hx135_1)).trans hx135_1
              replace hx135_2 := (HB.out.cell (World.block_lt_of_cell? w _ hx135_2)).trans hx135_2
              replace p135 := eq_true p135
              replace q135 := eq_true q135
              go_wp2_with (first | ((with_reducible refine gate_dst (N := 6) rfl ?_); (try (refine gate_guard (by rfl) ?_; dsimp only)); refine box_event ?hg (N := 6) ?hd (cs := #[.int .u64 0, .string (⟨#[]⟩ : ByteArray), .int .u64 0]) (t := 54) ?hr ?_; (case hd => rfl); (case hg => rfl); (case hr => first | (go_simp; done) | (go_simp; rfl)); intro gb136 hg w52 hbox hb; have n0_ := Aside0.mk (blk_below (g := gb133) (o := .cells #[.slice A0_0 l0_0.length c0_0, .int .u64 a0_1, .int .u64 a0_2] 25 (0, 0)) (vb_ BK133.out) hb); have n1_ := Aside0.mk (blk_below (g := gb134) (o := .cells #[.int .u64 a1_0, .slice (some ad135) l1_1.length c1_1] 57 (0, 0)) (vb_ BK134.out) hb); have n2_ := Aside0.mk (below_step (by repeat (first | (with_reducible first | exact HB.out | apply below_alloc | apply pw_below_drewN | apply below_drew1 | refine below_set ?_ GE133.out | refine below_set ?_ GE134.out) | exact HB.out)) hb); have n3_ := Aside0.mk (hbox); have n4_ := Aside0.mk ((by rw [hg]; exact (below_size (by repeat (first | (with_reducible first | exact HB.out | apply below_alloc | apply pw_below_drewN | apply below_drew1 | refine below_set ?_ GE133.out | refine below_set ?_ GE134.out) | exact HB.out))) : w.heap.size ≤ gb136)); have n5_ := Aside0.mk ((by rw [hg]; exact (below_size (by repeat (first | (with_reducible first | exact HB.out | apply below_alloc | apply pw_below_drewN | apply below_drew1 | refine below_set ?_ GE133.out | refine below_set ?_ GE134.out) | exact HB.out))) : w.heap.size ≤ gb136)); have n6_ := Aside0.mk ((by rw [hg]; exact Nat.ne_of_lt (blk_lt (g := gb133) (o := .cells #[.slice A0_0 l0_0.length c0_0, .int .u64 a0_1, .int .u64 a0_2] 25 (0, 0)) (vb_ BK133.out)) : gb133 ≠ gb136)); have n7_ := Aside0.mk ((by rw [hg]; exact Nat.ne_of_gt (blk_lt (g := gb133) (o := .cells #[.slice A0_0 l0_0.length c0_0, .int .u64 a0_1, .int .u64 a0_2] 25 (0, 0)) (vb_ BK133.out)) : gb136 ≠ gb133)); have n8_ := Aside0.mk ((by rw [hg]; exact Nat.ne_of_lt (blk_lt (g := gb134) (o := .cells #[.int .u64 a1_0, .slice (some ad135) l1_1.length c1_1] 57 (0, 0)) (vb_ BK134.out)) : gb134 ≠ gb136)); have n9_ := Aside0.mk ((by rw [hg]; exact Nat.ne_of_gt (blk_lt (g := gb134) (o := .cells #[.int .u64 a1_0, .slice (some ad135) l1_1.length c1_1] 57 (0, 0)) (vb_ BK134.out)) : gb136 ≠ gb134)); clear BK133; clear BK134; clear HB; have BK133 := n0_; have BK134 := n1_; have HB := n2_; have BK136 := n3_; have GW136 := n4_; have GE136 := n5_; have NB133_136 := n6_; have NB136_133 := n7_; have NB134_136 := n8_; have NB136_134 := n9_; clear n0_ n1_ n2_ n3_ n4_ n5_ n6_ n7_ n8_ n9_; clear hb hbox hg; have hnb53 := NB136_133.out; have hnc53 := NB133_136.out; have hnb54 := NB136_134.out; have hnc54 := NB134_136.out; have hcz55_0 : w52.cell? ⟨gb136, 0, none⟩ = some (.int .u64 0) := (blk_cell BK136.out 0).trans rfl; have hcz55_1 : w52.cell? ⟨gb136, 1, none⟩ = some (.string (⟨#[]⟩ : ByteArray)) := (blk_cell BK136.out 1).trans rfl; have hcz55_2 : w52.cell? ⟨gb136, 2, none⟩ = some (.int .u64 0) := (blk_cell BK136.out 2).trans rfl; have hfz55_0 := blk_frozen BK136.out 0; have hfz55_1 := blk_frozen BK136.out 1; have hfz55_2 := blk_frozen BK136.out 2; have hnb56 := NB133_134.out; have hnc56 := NB134_133.out; have hcz57_0 : w52.cell? ⟨gb133, 0, none⟩ = some (.slice A0_0 l0_0.length c0_0) := (blk_cell BK133.out 0).trans rfl; have hcz57_1 : w52.cell? ⟨gb133, 1, none⟩ = some (.int .u64 a0_1) := (blk_cell BK133.out 1).trans rfl; have hcz57_2 : w52.cell? ⟨gb133, 2, none⟩ = some (.int .u64 a0_2) := (blk_cell BK133.out 2).trans rfl; have hfz57_0 := blk_frozen BK133.out 0; have hfz57_1 := blk_frozen BK133.out 1; have hfz57_2 := blk_frozen BK133.out 2) | ((with_reducible refine gate_callee (f := 52) rfl ?_); refine goesL_ (some 19) rfl rfl Try.func52 (by kernel_rfl) rfl #[.agg #[.slice A0_0 l0_0.length c0_0, .int .u64 a0_1, .int .u64 a0_2], .agg #[.int .u64 ((rd_T54 l1_1 x12_1).f0), .string ((rd_T54 l1_1 x12_1).f1), .int .u64 ((rd_T54 l1_1 x12_1).f2)]] rfl (by (try simp only [List.map_toArray, List.map_cons, List.map_nil]); first | done | rfl | (simp only [List.length_drop, List.length_take]; rfl) | (simp [Act.eval]; omega)) ?_; (with_reducible refine (demurralref16_mail.calls _ _ l0_0 a0_1 a0_2 ((rd_T54 l1_1 x12_1).f0) ((rd_T54 l1_1 x12_1).f1) ((rd_T54 l1_1 x12_1).f2) false _ ?side1 ?side2 A10.out).mono ?_); (case side1 => exact Kd.C_below HR0_0.out (by repeat (first | (with_reducible first | exact HB.out | apply below_alloc | apply pw_below_drewN | apply below_drew1 | refine below_set ?_ GE133.out | refine below_set ?_ GE134.out | refine below_set ?_ GE136.out) | exact HB.out))); (case side2 => exact HC0_0.out); rintro e w58 ⟨rfl, hb⟩; refine ⟨_, rfl, ?_⟩; have n0_ := Aside0.mk (blk_below (g := gb133) (o := .cells #[.slice A0_0 l0_0.length c0_0, .int .u64 a0_1, .int .u64 a0_2] 25 (0, 0)) (by (with_reducible repeat (first | refine blk_drewN ?_ _ | refine blk_drew ?_ | refine blk_alloc ?_ _)); refine blk_far ?_ NB133_136.out _; (with_reducible repeat (first | refine blk_drewN ?_ _ | refine blk_drew ?_ | refine blk_alloc ?_ _)); refine blk_far ?_ NB133_136.out _; (with_reducible repeat (first | refine blk_drewN ?_ _ | refine blk_drew ?_ | refine blk_alloc ?_ _)); refine blk_far ?_ NB133_136.out _; (with_reducible repeat (first | refine blk_drewN ?_ _ | refine blk_drew ?_ | refine blk_alloc ?_ _)); exact BK133.out) hb); have n1_ := Aside0.mk (blk_below (g := gb134) (o := .cells #[.int .u64 a1_0, .slice (some ad135) l1_1.length c1_1] 57 (0, 0)) (by (with_reducible repeat (first | refine blk_drewN ?_ _ | refine blk_drew ?_ | refine blk_alloc ?_ _)); refine blk_far ?_ NB134_136.out _; (with_reducible repeat (first | refine blk_drewN ?_ _ | refine blk_drew ?_ | refine blk_alloc ?_ _)); refine blk_far ?_ NB134_136.out _; (with_reducible repeat (first | refine blk_drewN ?_ _ | refine blk_drew ?_ | refine blk_alloc ?_ _)); refine blk_far ?_ NB134_136.out _; (with_reducible repeat (first | refine blk_drewN ?_ _ | refine blk_drew ?_ | refine blk_alloc ?_ _)); exact BK134.out) hb); have n2_ := Aside0.mk (blk_below (g := gb136) (o := .cells #[.int .u64 ((rd_T54 l1_1 x12_1).f0), .string ((rd_T54 l1_1 x12_1).f1), .int .u64 ((rd_T54 l1_1 x12_1).f2)] 54 (0, 0)) (by (with_reducible repeat (first | refine blk_drewN ?_ _ | refine blk_drew ?_ | refine blk_alloc ?_ _)); refine blk_put (cs := #[.int .u64 ((rd_T54 l1_1 x12_1).f0), .string ((rd_T54 l1_1 x12_1).f1), .int .u64 0]) ?_ 2 _ rfl; (with_reducible repeat (first | refine blk_drewN ?_ _ | refine blk_drew ?_ | refine blk_alloc ?_ _)); refine blk_put (cs := #[.int .u64 ((rd_T54 l1_1 x12_1).f0), .string (⟨#[]⟩ : ByteArray), .int .u64 0]) ?_ 1 _ rfl; (with_reducible repeat (first | refine blk_drewN ?_ _ | refine blk_drew ?_ | refine blk_alloc ?_ _)); refine blk_put (cs := #[.int .u64 0, .string (⟨#[]⟩ : ByteArray), .int .u64 0]) ?_ 0 _ rfl; (with_reducible repeat (first | refine blk_drewN ?_ _ | refine blk_drew ?_ | refine blk_alloc ?_ _)); exact BK136.out) hb); have n3_ := Aside0.mk (below_step (by repeat (first | (with_reducible first | exact HB.out | apply below_alloc | apply pw_below_drewN | apply below_drew1 | refine below_set ?_ GE133.out | refine below_set ?_ GE134.out | refine below_set ?_ GE136.out) | exact HB.out)) hb); clear BK133; clear BK134; clear BK136; clear HB; have BK133 := n0_; have BK134 := n1_; have BK136 := n2_; have HB := n3_; clear n0_ n1_ n2_ n3_; (try clear hb); (try clear hb2); (try clear hk); (try clear hi)))
              go_ret
              exact ⟨by first | rfl | (simp [errW_none, errW_some] <;> rfl) | (simp [*, errW_none, errW_some] <;> rfl), by repeat (first | (with_reducible first | exact HB.out | apply below_alloc | apply pw_below_drewN | apply below_drew1 | refine below_set ?_ GE133.out | refine below_set ?_ GE134.out | refine below_set ?_ GE136.out) | exact HB.out)⟩
          · rw [if_neg c9] at H
            exact absurd H (by simp)
        · rw [if_neg c8] at H
          exact absurd H (by simp)
      · rw [if_neg c7] at H
        have c7b0 : decide (x12_1 < (l1_1.length : Int)) = false := decide_eq_false c7
        clear c7
        by_cases c59 : (l1_1.length : Int) ≥ 1
        · rw [if_pos c59] at H
          have c59b0 : decide (1 ≤ (l1_1.length : Int)) = true := decide_eq_true c59
          have c59b1 : decide (1 ≤ l1_1.length) = true := decide_eq_true (by omega)
          clear c59
          obtain rfl := Option.some.inj H
          have hnb60 := NB134_133.out
          have hnc60 := NB133_134.out
          have hcz61_0 : wr.cell? ⟨gb134, 0, none⟩ = some (.int .u64 a1_0) := (blk_cell BK134.out 0).trans rfl
          have hcz61_1 : wr.cell? ⟨gb134, 1, none⟩ = some (.slice A1_1 l1_1.length c1_1) := (blk_cell BK134.out 1).trans rfl
          have hfz61_0 := blk_frozen BK134.out 0
          have hfz61_1 := blk_frozen BK134.out 1
          go_wp2
          go_ret
          exact ⟨by first | rfl | (simp [errW_none, errW_some] <;> rfl) | (simp [*, errW_none, errW_some] <;> rfl), by repeat (first | (with_reducible first | exact HB.out | apply below_alloc | apply pw_below_drewN | apply below_drew1 | refine below_set ?_ GE133.out | refine below_set ?_ GE134.out) | exact HB.out)⟩
        · rw [if_neg c59] at H
          have c59b0 : decide (1 ≤ (l1_1.length : Int)) = false := decide_eq_false c59
          have c59b1 : decide (1 ≤ l1_1.length) = false := decide_eq_false (by omega)
          clear c59
          obtain rfl := Option.some.inj H
          have hnb62 := NB134_133.out
          have hnc62 := NB133_134.out
          have hcz63_0 : wr.cell? ⟨gb134, 0, none⟩ = some (.int .u64 a1_0) := (blk_cell BK134.out 0).trans rfl
          have hcz63_1 : wr.cell? ⟨gb134, 1, none⟩ = some (.slice A1_1 l1_1.length c1_1) := (blk_cell BK134.out 1).trans rfl
          have hfz63_0 := blk_frozen BK134.out 0
          have hfz63_1 := blk_frozen BK134.out 1
          go_wp2
          go_ret
          exact ⟨by first | rfl | (simp [errW_none, errW_some] <;> rfl) | (simp [*, errW_none, errW_some] <;> rfl), by repeat (first | (with_reducible first | exact HB.out | apply below_alloc | apply pw_below_drewN | apply below_drew1 | refine below_set ?_ GE133.out | refine below_set ?_ GE134.out) | exact HB.out)⟩

end Go.Proofs.Ytbmfcikjhnnnbaa.Q
