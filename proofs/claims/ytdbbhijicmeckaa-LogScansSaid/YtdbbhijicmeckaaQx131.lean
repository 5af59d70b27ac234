-- PRINTED by print.py (a twelfth state) out of the translation. Not trusted: Lean checks it.
import Derived.Test.YtdbbhijicmeckaaQx0
import Derived.Test.YtdbbhijicmeckaaQx114
import Derived.Test.YtdbbhijicmeckaaQx137
namespace Go.Proofs.Ytdbbhijicmeckaa.Q
open Go.RowKit Go.Proofs.YtdbbhijicmeckaaW.PrintWords Go.Proofs.YtdbbhijicmeckaaW.PrintLast Go.Proofs.YtdbbhijicmeckaaW.PrintMore
attribute [local go_sem] max2_int min2_int max_two min_two max_three min_three max_four min_four   -- for this text's walks alone
set_option linter.unusedVariables false
set_option linter.unusedSimpArgs false

/-! ### demurralref09_one: function 31 -/
mutual
def demurralref09_one.l0 : Nat → ByteArray → Int → Option (List ByteArray × Int)
  | 0, _, _ => none
  | k + 1, x0, x3 => if x3 ≤ 3 then (if x3 ≤ (x0.size : Int) then (if 0 ≤ x3 then ((demurralref07_Unpack.f k (x0.extract 0 (x3 : Int).toNat) (⟨#[110]⟩ : ByteArray)).bind fun bt222 => (if bt222.2.2 = 0 then (if 0 < (bt222.1.length : Int) then (if ((rd_T65 bt222.1 0).f1) ≤ 1024 then (demurralref09_one.j1 k x0 x3 (decide ((wrap64 ((wrap64 (x3 + (wrap64 ((rd_T65 bt222.1 0).f1)))) + 4)) ≤ (x0.size : Int))) bt222.1 bt222.2.1 bt222.2.2) else (demurralref09_one.j1 k x0 x3 false bt222.1 bt222.2.1 bt222.2.2)) else (none)) else (demurralref09_one.j1 k x0 x3 false bt222.1 bt222.2.1 bt222.2.2))) else (none)) else (demurralref09_one.l0 k x0 (wrap64 (x3 + 1)))) else (some (([] : List ByteArray), 0))
def demurralref09_one.j1 : Nat → ByteArray → Int → Bool → List (S65) → Int → Int → Option (List ByteArray × Int)
  | 0, _, _, _, _, _, _ => none
  | k + 1, x0, x3, x42, x228000, x228001, x228002 => if x42 = true then (if 0 < (x228000.length : Int) then (if 0 ≤ x3 then (if x3 ≤ (wrap64 (x3 + (wrap64 ((rd_T65 x228000 0).f1)))) then (if (wrap64 (x3 + (wrap64 ((rd_T65 x228000 0).f1)))) ≤ (x0.size : Int) then ((demurralref09_Record.f k (x0.extract (x3 : Int).toNat ((wrap64 (x3 + (wrap64 ((rd_T65 x228000 0).f1)))) : Int).toNat)).bind fun t231 => (if 0 ≤ (wrap64 ((wrap64 (x3 + ((x0.extract (x3 : Int).toNat ((wrap64 (x3 + (wrap64 ((rd_T65 x228000 0).f1)))) : Int).toNat).size : Int))) + 4)) then (if (wrap64 ((wrap64 (x3 + ((x0.extract (x3 : Int).toNat ((wrap64 (x3 + (wrap64 ((rd_T65 x228000 0).f1)))) : Int).toNat).size : Int))) + 4)) ≤ (x0.size : Int) then (if t231.toList = (x0.extract 0 ((wrap64 ((wrap64 (x3 + ((x0.extract (x3 : Int).toNat ((wrap64 (x3 + (wrap64 ((rd_T65 x228000 0).f1)))) : Int).toNat).size : Int))) + 4)) : Int).toNat).toList then (some ((([x0.extract (x3 : Int).toNat ((wrap64 (x3 + (wrap64 ((rd_T65 x228000 0).f1)))) : Int).toNat] : List ByteArray)), wrap64 ((wrap64 (x3 + ((x0.extract (x3 : Int).toNat ((wrap64 (x3 + (wrap64 ((rd_T65 x228000 0).f1)))) : Int).toNat).size : Int))) + 4))) else (demurralref09_one.l0 k x0 (wrap64 (x3 + 1)))) else (none)) else (none))) else (none)) else (none)) else (none)) else (none)) else (demurralref09_one.l0 k x0 (wrap64 (x3 + 1)))
end
def demurralref09_one.f (k : Nat) (a0 : ByteArray) : Option (List ByteArray × Int) := demurralref09_one.l0 k a0 0
theorem demurralref09_one.mono_l : ∀ k, (∀ y0 y1, LeO (demurralref09_one.l0 k y0 y1) (demurralref09_one.l0 (k + 1) y0 y1)) ∧ (∀ y0 y1 y2 y3 y4 y5, LeO (demurralref09_one.j1 k y0 y1 y2 y3 y4 y5) (demurralref09_one.j1 (k + 1) y0 y1 y2 y3 y4 y5))
  | 0 => ⟨fun _ _ r h => by simp [demurralref09_one.l0] at h, fun _ _ _ _ _ _ r h => by simp [demurralref09_one.j1] at h⟩
  | k + 1 => by
    obtain ⟨ih0, ih1⟩ := demurralref09_one.mono_l k
    refine ⟨?_, ?_⟩
    · intro y0 y1
      unfold demurralref09_one.l0
      repeat' first
      | (with_reducible exact ih0 _ _)
      | (with_reducible exact ih1 _ _ _ _ _ _)
      | (with_reducible exact demurralref07_Unpack.mono _ _ _)
      | (with_reducible exact demurralref09_Record.mono _ _)
      | (with_reducible exact LeO.refl _)
      | (with_reducible exact LeO.none _)
      | (with_reducible refine LeO.ite ?_ ?_)
      | (with_reducible refine LeO.bind ?_ (fun _ => ?_))
      | exact ih0 _ _
      | exact ih1 _ _ _ _ _ _
      | exact demurralref07_Unpack.mono _ _ _
      | exact demurralref09_Record.mono _ _
      | exact LeO.none _
      | refine LeO.ite ?_ ?_
      | refine LeO.bind ?_ (fun _ => ?_)
    · intro y0 y1 y2 y3 y4 y5
      unfold demurralref09_one.j1
      repeat' first
      | (with_reducible exact ih0 _ _)
      | (with_reducible exact ih1 _ _ _ _ _ _)
      | (with_reducible exact demurralref07_Unpack.mono _ _ _)
      | (with_reducible exact demurralref09_Record.mono _ _)
      | (with_reducible exact LeO.refl _)
      | (with_reducible exact LeO.none _)
      | (with_reducible refine LeO.ite ?_ ?_)
      | (with_reducible refine LeO.bind ?_ (fun _ => ?_))
      | exact ih0 _ _
      | exact ih1 _ _ _ _ _ _
      | exact demurralref07_Unpack.mono _ _ _
      | exact demurralref09_Record.mono _ _
      | exact LeO.none _
      | refine LeO.ite ?_ ?_
      | refine LeO.bind ?_ (fun _ => ?_)
theorem demurralref09_one.mono : ∀ a0 k, LeO (demurralref09_one.f k a0) (demurralref09_one.f (k + 1) a0) := by
  intro a0 k
  obtain ⟨ih0, ih1⟩ := demurralref09_one.mono_l k
  unfold demurralref09_one.f
  repeat' first
      | (with_reducible exact ih0 _ _)
      | (with_reducible exact ih1 _ _ _ _ _ _)
      | (with_reducible exact demurralref07_Unpack.mono _ _ _)
      | (with_reducible exact demurralref09_Record.mono _ _)
      | (with_reducible exact LeO.refl _)
      | (with_reducible exact LeO.none _)
      | (with_reducible refine LeO.ite ?_ ?_)
      | (with_reducible refine LeO.bind ?_ (fun _ => ?_))
      | exact ih0 _ _
      | exact ih1 _ _ _ _ _ _
      | exact demurralref07_Unpack.mono _ _ _
      | exact demurralref09_Record.mono _ _
      | exact LeO.none _
      | refine LeO.ite ?_ ?_
      | refine LeO.bind ?_ (fun _ => ?_)
def demurralref09_one.T8 : Bool × List (List Nat × List Nat) := (true, [([], []), ([0], [0]), ([], []), ([], []), ([], []), ([4], [4]), ([3, 5], [3, 5]), ([6], [6]), ([2, 7], [2, 7]), ([1, 8], [1, 8])])
def demurralref09_one.B8 : List Nat := [0, 1, 0, 0, 0, 16, 56, 120, 252, 511]
theorem demurralref09_one.tab8 : rtab .any (opsOf Try.f31 8) = demurralref09_one.T8 := by kernel_rfl
theorem demurralref09_one.bits8 : waitsOk demurralref09_one.T8.2 demurralref09_one.B8 = true := by kernel_rfl
set_option maxHeartbeats 8000000 in
set_option maxRecDepth 100000 in
theorem demurralref09_one.calls (k : Nat) (a0 : ByteArray) (r1 : List ByteArray) (r2 : Int) (w : World) (h : demurralref09_one.f k a0 = some (r1, r2)) :
    Calls Try.prog 31 #[.string a0] w fun e w' => ∃ v0_ : Value, e = .returned (.agg #[v0_, .int .i64 r2]) ∧ Kd.R Kd.string 9 w' w.heap.size (fun _ => True) v0_ r1 ∧ Below w.heap.size w w' := by
  have hu40 := Try.underlying40
  have hu76 := Try.underlying76
  have HB := Aside0.mk (Below.refl w.heap.size w)
  have H : (demurralref09_one.l0 k a0 0) = some (r1, r2) := h
  clear h
  have H' := Aside0.mk H
  clear H
  go_enter Try.func31, Try.ntmps31
  go_wp2_with (first | ((with_reducible refine gate_dst (N := 2) rfl ?_); (try (refine gate_guard (by rfl) ?_; dsimp only)); refine box_event ?hg (N := 2) ?hd (cs := #[.slice none 0 0, .int .i64 0]) (t := 40) ?hr ?_; (case hd => rfl); (case hg => rfl); (case hr => first | (go_simp; done) | (go_simp; rfl)); intro gb221 hg w2 hbox hb; have n0_ := Aside0.mk (below_step (by repeat (first | (with_reducible first | exact HB.out | apply below_alloc | apply pw_below_drewN | apply below_drew1) | exact HB.out)) hb); have n1_ := Aside0.mk (hbox); have n2_ := Aside0.mk ((by rw [hg]; exact (below_size (by repeat (first | (with_reducible first | exact HB.out | apply below_alloc | apply pw_below_drewN | apply below_drew1) | exact HB.out))) : w.heap.size ≤ gb221)); have n3_ := Aside0.mk ((by rw [hg]; exact (below_size (by repeat (first | (with_reducible first | exact HB.out | apply below_alloc | apply pw_below_drewN | apply below_drew1) | exact HB.out))) : w.heap.size ≤ gb221)); clear HB; have HB := n0_; have BK221 := n1_; have GW221 := n2_; have GE221 := n3_; clear n0_ n1_ n2_ n3_; clear hb hbox hg))
  go_loopg [3] k (fun kq v3 w' => ∃ (x3_1 : Int) (x222001_1 : Int), v3 = .int .i64 x3_1 ∧ Aside0 (demurralref09_one.l0 kq a0 x3_1 = some (r1, r2)) ∧ Aside0 (kq ≤ k) ∧ Aside0 (w'.heap[gb221]? = some (.cells #[(.slice none 0 0), .int .i64 x222001_1] 40 (0, 0))) ∧ Aside0 (Below w.heap.size w w'))
  case atStart => exact ⟨(0), (0), (by first | rfl | (simp; done) | (simp [*]; done)), H', ⟨Nat.le_refl _⟩, ⟨by (with_reducible repeat (first | refine blk_drewN ?_ _ | refine blk_drew ?_ | refine blk_alloc ?_ _)); exact BK221.out⟩, ⟨by repeat (first | (with_reducible first | exact HB.out | apply below_alloc | apply pw_below_drewN | apply below_drew1 | refine below_set ?_ GE221.out) | exact HB.out)⟩⟩
  case round =>
    clear H'
    try clear p2
    obtain ⟨x3_1, x222001_1, rfl, HA, HK1, BK221, HB⟩ := hrel
    cases gk with
    | zero => exact absurd HA.out (by simp [demurralref09_one.l0])
    | succ k1 =>
      have H := HA.out
      clear HA
      simp only [demurralref09_one.l0] at H
      by_cases c3 : x3_1 ≤ 3
      · rw [if_pos c3] at H
        have c3b0 : decide (x3_1 ≤ 3) = true := decide_eq_true c3
        clear c3
        by_cases c4 : x3_1 ≤ (a0.size : Int)
        · rw [if_pos c4] at H
          have c4b0 : decide (x3_1 ≤ (a0.size : Int)) = true := decide_eq_true c4
          clear c4
          by_cases c5 : 0 ≤ x3_1
          · rw [if_pos c5] at H
            have c5b0 := eq_true c5
            have c5b1 : decide (0 ≤ x3_1) = true := decide_eq_true c5
            clear c5
            have c6b0 := eq_true (of_decide_eq_true (by first | (with_reducible assumption) | assumption) : x3_1 ≤ (a0.size : Int))
            replace H := Option.bind_eq_some_iff.mp H
            obtain ⟨⟨t222, t225, t226⟩, A70, H⟩ := H
            replace H : (if t226 = 0 then (if 0 < (t222.length : Int) then (if ((rd_T65 t222 0).f1) ≤ 1024 then (demurralref09_one.j1 k1 a0 x3_1 (decide ((wrap64 ((wrap64 (x3_1 + (wrap64 ((rd_T65 t222 0).f1)))) + 4)) ≤ (a0.size : Int))) t222 t225 t226) else (demurralref09_one.j1 k1 a0 x3_1 false t222 t225 t226)) else (none)) else (demurralref09_one.j1 k1 a0 x3_1 false t222 t225 t226)) = some (r1, r2) := H
            have A7 := Aside0.mk A70
            clear A70
            have HC8 := Aside0.mk H
            clear H
            go_upto_region 6 with (first | ((with_reducible refine gate_callee (f := 37) rfl ?_); refine goesL_ (some 17) rfl rfl Try.func37 (by kernel_rfl) rfl #[.string (a0.extract 0 (x3_1 : Int).toNat), .string (⟨#[110]⟩ : ByteArray)] rfl (by (try simp only [List.map_toArray, List.map_cons, List.map_nil]); first | done | rfl | (simp only [List.length_drop, List.length_take]; rfl) | (simp [Act.eval]; omega)) ?_; (with_reducible refine (demurralref07_Unpack.calls k1 (a0.extract 0 (x3_1 : Int).toNat) (⟨#[110]⟩ : ByteArray) t222 t225 t226 _ A7.out).mono ?_); rintro e w9 ⟨v223, rfl, ho0, hb⟩; refine ⟨_, rfl, ?_⟩; have n0_ := Aside0.mk (Kd.R_lower ho0 (below_size (by repeat (first | (with_reducible first | exact HB.out | apply below_alloc | apply pw_below_drewN | apply below_drew1 | refine below_set ?_ GE221.out) | exact HB.out)))); have n1_ := Aside0.mk (blk_below (g := gb221) (o := .cells #[.slice none 0 0, .int .i64 x222001_1] 40 (0, 0)) (by (with_reducible repeat (first | refine blk_drewN ?_ _ | refine blk_drew ?_ | refine blk_alloc ?_ _)); exact BK221.out) hb); have n2_ := Aside0.mk (below_step (by repeat (first | (with_reducible first | exact HB.out | apply below_alloc | apply pw_below_drewN | apply below_drew1 | refine below_set ?_ GE221.out) | exact HB.out)) hb); clear BK221; clear HB; have HO224 := n0_; have BK221 := n1_; have HB := n2_; clear n0_ n1_ n2_; (try clear hb); (try clear hb2); (try clear hk); (try clear hi); (try clear ho0)) | ((with_reducible refine gate_dst (N := 4) rfl ?_); (try (refine gate_guard (by rfl) ?_; dsimp only)); refine box_event ?hg (N := 4) ?hd (cs := #[.slice none 0 0, .int .i64 0, .int .i64 0]) (t := 76) ?hr ?_; (case hd => rfl); (case hg => rfl); (case hr => first | (go_simp; done) | (go_simp; rfl)); intro gb227 hg w10 hbox hb; have n0_ := Aside0.mk (Kd.R_below (by (with_reducible repeat (first | apply Kd.R_alloc | apply Kd.R_drewN | apply Kd.R_drew)); exact HO224.out) hb); have n1_ := Aside0.mk (blk_below (g := gb221) (o := .cells #[.slice none 0 0, .int .i64 x222001_1] 40 (0, 0)) (by (with_reducible repeat (first | refine blk_drewN ?_ _ | refine blk_drew ?_ | refine blk_alloc ?_ _)); exact BK221.out) hb); have n2_ := Aside0.mk (below_step (by repeat (first | (with_reducible first | exact HB.out | apply below_alloc | apply pw_below_drewN | apply below_drew1 | refine below_set ?_ GE221.out) | exact HB.out)) hb); have n3_ := Aside0.mk (hbox); have n4_ := Aside0.mk ((by rw [hg]; exact (below_size (by repeat (first | (with_reducible first | exact HB.out | apply below_alloc | apply pw_below_drewN | apply below_drew1 | refine below_set ?_ GE221.out) | exact HB.out))) : w.heap.size ≤ gb227)); have n5_ := Aside0.mk ((by rw [hg]; exact (below_size (by repeat (first | (with_reducible first | exact HB.out | apply below_alloc | apply pw_below_drewN | apply below_drew1 | refine below_set ?_ GE221.out) | exact HB.out))) : w.heap.size ≤ gb227)); have n6_ := Aside0.mk ((by rw [hg]; exact Nat.ne_of_lt (blk_lt (g := gb221) (o := .cells #[.slice none 0 0, .int .i64 x222001_1] 40 (0, 0)) (by (with_reducible repeat (first | refine blk_drewN ?_ _ | refine blk_drew ?_ | refine blk_alloc ?_ _)); exact BK221.out)) : gb221 ≠ gb227)); have n7_ := Aside0.mk ((by rw [hg]; exact Nat.ne_of_gt (blk_lt (g := gb221) (o := .cells #[.slice none 0 0, .int .i64 x222001_1] 40 (0, 0)) (by (with_reducible repeat (first | refine blk_drewN ?_ _ | refine blk_drew ?_ | refine blk_alloc ?_ _)); exact BK221.out)) : gb227 ≠ gb221)); clear HO224; clear BK221; clear HB; have HO224 := n0_; have BK221 := n1_; have HB := n2_; have BK227 := n3_; have GW227 := n4_; have GE227 := n5_; have NB221_227 := n6_; have NB227_221 := n7_; clear n0_ n1_ n2_ n3_ n4_ n5_ n6_ n7_; clear hb hbox hg; obtain ⟨Ao11, co11, eo11⟩ := Kd.R_slice HO224.out; subst eo11; have hnb12 := NB227_221.out; have hnc12 := NB221_227.out; have hcz13_0 : w10.cell? ⟨gb227, 0, none⟩ = some (.slice none 0 0) := (blk_cell BK227.out 0).trans rfl; have hcz13_1 : w10.cell? ⟨gb227, 1, none⟩ = some (.int .i64 0) := (blk_cell BK227.out 1).trans rfl; have hcz13_2 : w10.cell? ⟨gb227, 2, none⟩ = some (.int .i64 0) := (blk_cell BK227.out 2).trans rfl; have hfz13_0 := blk_frozen BK227.out 0; have hfz13_1 := blk_frozen BK227.out 1; have hfz13_2 := blk_frozen BK227.out 2))
            (try simp only [Act.put, List.setIfInBounds_toArray, List.set_cons_zero, List.set_cons_succ])
            go_cut [42] (fun v42 wc => ∃ (kq : Nat) (x42_7 : Bool), v42 = .bool x42_7 ∧ Aside0 (demurralref09_one.j1 kq a0 x3_1 x42_7 t222 t225 t226 = some (r1, r2)) ∧ Aside0 (kq ≤ k1) ∧ Aside0 (Kd.R k65 65 wc w.heap.size (fun _ => True) (.slice Ao11 t222.length co11) t222) ∧ Aside0 (wc.heap[gb221]? = some (.cells #[(.slice none 0 0), .int .i64 x222001_1] 40 (0, 0))) ∧ Aside0 (wc.heap[gb227]? = some (.cells #[(.slice Ao11 t222.length co11), .int .i64 t225, .int .i64 t226] 76 (0, 0))) ∧ Aside0 (Below w.heap.size w wc))
            case first =>
              have H := HC8.out
              clear HC8
              by_cases c14 : t226 = 0
              · rw [if_pos c14] at H
                have c14b0 : (t226 == 0) = true := beq_iff_eq.mpr c14
                have c14b1 : (t226 != 0) = false := bne_eq_false_iff_eq.mpr c14
                clear c14
                (first | rw [c14b0] | (simp only [i64_w, i32_w]; rw [c14b0]) | skip)
                by_cases c15 : 0 < (t222.length : Int)
                · rw [if_pos c15] at H
                  have c15b0 : decide (0 < (t222.length : Int)) = true := decide_eq_true c15
                  have c15b1 : decide (0 < t222.length) = true := decide_eq_true (by omega)
                  clear c15
                  by_cases c16 : ((rd_T65 t222 0).f1) ≤ 1024
                  · rw [if_pos c16] at H
                    have c16b0 : decide (((rd_T65 t222 0).f1) ≤ 1024) = true := decide_eq_true c16
                    clear c16
                    have H' := Aside0.mk H
                    clear H
                    have hnb17 := NB227_221.out
                    have hnc17 := NB221_227.out
                    have hcz18_0 : w10.cell? ⟨gb227, 0, none⟩ = some (.slice none 0 0) := (blk_cell BK227.out 0).trans rfl
                    have hcz18_1 : w10.cell? ⟨gb227, 1, none⟩ = some (.int .i64 0) := (blk_cell BK227.out 1).trans rfl
                    have hcz18_2 : w10.cell? ⟨gb227, 2, none⟩ = some (.int .i64 0) := (blk_cell BK227.out 2).trans rfl
                    have hfz18_0 := blk_frozen BK227.out 0
                    have hfz18_1 := blk_frozen BK227.out 1
                    have hfz18_2 := blk_frozen BK227.out 2
                    have p228 : 0 ≤ (0 : Int) := (by omega)
                    have q228 : 0 < (t222.length : Int) := of_decide_eq_true (by first | (with_reducible assumption) | assumption)
                    obtain ⟨ad228, e228, hx228_0, hx228_1, hx228_2⟩ := at_T65 (Kd.R_reads' HO224.out).2.2 0 p228 q228
                    cases e228
                    have qi228 : (0 < t222.length) = True := eq_true (by omega)
                    (try rw [show ((0 : Int)).toNat = 0 from rfl] at hx228_0)
                    (try rw [show 0 * 3 = 0 from rfl] at hx228_0)
                    (try rw [Addr.add_zero'] at hx228_0)
                    (try rw [show ((0 : Int)).toNat = 0 from rfl] at hx228_1)
                    (try rw [show 0 * 3 = 0 from rfl] at hx228_1)
                    (try rw [Addr.add_zero'] at hx228_1)
                    (try rw [show ((0 : Int)).toNat = 0 from rfl] at hx228_2)
                    (try rw [show 0 * 3 = 0 from rfl] at hx228_2)
                    (try rw [Addr.add_zero'] at hx228_2)
                    have hn228_0 : ad228.block ≠ gb227 := Kd.own_blk (Kd.R_ne HO224.out BK227.out (by decide))
                    have hn228_1 : ad228.block ≠ gb227 := Kd.own_blk (Kd.R_ne HO224.out BK227.out (by decide))
                    have hn228_2 : ad228.block ≠ gb227 := Kd.own_blk (Kd.R_ne HO224.out BK227.out (by decide))
                    replace hx228_0 := (cell_far (p := ⟨gb227, 0, none⟩) (by first | (rw [add_block]; exact hn228_0) | (show (Addr.add _ _).block ≠ _; rw [add_block]; exact hn228_0) | exact hn228_0) (.slice (some ad228) t222.length co11)).trans hx228_0
                    replace hx228_1 := (cell_far (p := ⟨gb227, 0, none⟩) (by first | (rw [add_block]; exact hn228_0) | (show (Addr.add _ _).block ≠ _; rw [add_block]; exact hn228_0) | exact hn228_0) (.slice (some ad228) t222.length co11)).trans hx228_1
                    replace hx228_2 := (cell_far (p := ⟨gb227, 0, none⟩) (by first | (rw [add_block]; exact hn228_0) | (show (Addr.add _ _).block ≠ _; rw [add_block]; exact hn228_0) | exact hn228_0) (.slice (some ad228) t222.length co11)).trans hx228_2
                    replace hx228_0 := (cell_far (p := ⟨gb227, 1, none⟩) (by first | (rw [add_block]; exact hn228_1) | (show (Addr.add _ _).block ≠ _; rw [add_block]; exact hn228_1) | exact hn228_1) (.int .i64 t225)).trans hx228_0
                    replace hx228_1 := (cell_far (p := ⟨gb227, 1, none⟩) (by first | (rw [add_block]; exact hn228_1) | (show (Addr.add _ _).block ≠ _; rw [add_block]; exact hn228_1) | exact hn228_1) (.int .i64 t225)).trans hx228_1
                    replace hx228_2 := (cell_far (p := ⟨gb227, 1, none⟩) (by first | (rw [add_block]; exact hn228_1) | (show (Addr.add _ _).block ≠ _; rw [add_block]; exact hn228_1) | exact hn228_1) (.int .i64 t225)).trans hx228_2
                    replace hx228_0 := (cell_far (p := ⟨gb227, 2, none⟩) (by first | (rw [add_block]; exact hn228_2) | (show (Addr.add _ _).block ≠ _; rw [add_block]; exact hn228_2) | exact hn228_2) (.int .i64 t226)).trans hx228_0
                    replace hx228_1 := (cell_far (p := ⟨gb227, 2, none⟩) (by first | (rw [add_block]; exact hn228_2) | (show (Addr.add _ _).block ≠ _; rw [add_block]; exact hn228_2) | exact hn228_2) (.int .i64 t226)).trans hx228_1
                    replace hx228_2 := (cell_far (p := ⟨gb227, 2, none⟩) (by first | (rw [add_block]; exact hn228_2) | (show (Addr.add _ _).block ≠ _; rw [add_block]; exact hn228_2) | exact hn228_2) (.int .i64 t226)).trans hx228_2
                    clear hn228_0
                    clear hn228_1
                    clear hn228_2
                    replace p228 := eq_true p228
                    replace q228 := eq_true q228
                    have p229 : 0 ≤ (0 : Int) := (by omega)
                    have q229 : 0 < (t222.length : Int) := of_decide_eq_true (by first | (with_reducible assumption) | assumption)
                    obtain ⟨ad229, e229, hx229_0, hx229_1, hx229_2⟩ := at_T65 (Kd.R_reads' HO224.out).2.2 0 p229 q229
                    obtain rfl : ad228 = ad229 := (by injection e229)
                    have qi229 : (0 < t222.length) = True := eq_true (by omega)
                    (try rw [show ((0 : Int)).toNat = 0 from rfl] at hx229_0)
                    (try rw [show 0 * 3 = 0 from rfl] at hx229_0)
                    (try rw [Addr.add_zero'] at hx229_0)
                    (try rw [show ((0 : Int)).toNat = 0 from rfl] at hx229_1)
                    (try rw [show 0 * 3 = 0 from rfl] at hx229_1)
                    (try rw [Addr.add_zero'] at hx229_1)
                    (try rw [show ((0 : Int)).toNat = 0 from rfl] at hx229_2)
                    (try rw [show 0 * 3 = 0 from rfl] at hx229_2)
                    (try rw [Addr.add_zero'] at hx229_2)
                    have hn229_0 : ad228.block ≠ gb227 := Kd.own_blk (Kd.R_ne HO224.out BK227.out (by decide))
                    have hn229_1 : ad228.block ≠ gb227 := Kd.own_blk (Kd.R_ne HO224.out BK227.out (by decide))
                    have hn229_2 : ad228.block ≠ gb227 := Kd.own_blk (Kd.R_ne HO224.out BK227.out (by decide))
                    replace hx229_0 := (cell_far (p := ⟨gb227, 0, none⟩) (by first | (rw [add_block]; exact hn229_0) | (show (Addr.add _ _).block ≠ _; rw [add_block]; exact hn229_0) | exact hn229_0) (.slice (some ad228) t222.length co11)).trans hx229_0
                    replace hx229_1 := (cell_far (p := ⟨gb227, 0, none⟩) (by first | (rw [add_block]; exact hn229_0) | (show (Addr.add _ _).block ≠ _; rw [add_block]; exact hn229_0) | exact hn229_0) (.slice (some ad228) t222.length co11)).trans hx229_1
                    replace hx229_2 := (cell_far (p := ⟨gb227, 0, none⟩) (by first | (rw [add_block]; exact hn229_0) | (show (Addr.add _ _).block ≠ _; rw [add_block]; exact hn229_0) | exact hn229_0) (.slice (some ad228) t222.length co11)).trans hx229_2
                    replace hx229_0 := (cell_far (p := ⟨gb227, 1, none⟩) (by first | (rw [add_block]; exact hn229_1) | (show (Addr.add _ _).block ≠ _; rw [add_block]; exact hn229_1) | exact hn229_1) (.int .i64 t225)).trans hx229_0
                    replace hx229_1 := (cell_far (p := ⟨gb227, 1, none⟩) (by first | (rw [add_block]; exact hn229_1) | (show (Addr.add _ _).block ≠ _; rw [add_block]; exact hn229_1) | exact hn229_1) (.int .i64 t225)).trans hx229_1
                    replace hx229_2 := (cell_far (p := ⟨gb227, 1, none⟩) (by first | (rw [add_block]; exact hn229_1) | (show (Addr.add _ _).block ≠ _; rw [add_block]; exact hn229_1) | exact hn229_1) (.int .i64 t225)).trans hx229_2
                    replace hx229_0 := (cell_far (p := ⟨gb227, 2, none⟩) (by first | (rw [add_block]; exact hn229_2) | (show (Addr.add _ _).block ≠ _; rw [add_block]; exact hn229_2) | exact hn229_2) (.int .i64 t226)).trans hx229_0
                    replace hx229_1 := (cell_far (p := ⟨gb227, 2, none⟩) (by first | (rw [add_block]; exact hn229_2) | (show (Addr.add _ _).block ≠ _; rw [add_block]; exact hn229_2) | exact hn229_2) (.int .i64 t226)).trans hx229_1
                    replace hx229_2 := (cell_far (p := ⟨gb227, 2, none⟩) (by first | (rw [add_block]; exact hn229_2) | (show (Addr.add _ _).block ≠ _; rw [add_block]; exact hn229_2) | exact hn229_2) (.int .i64 t226)).trans hx229_2
                    clear hn229_0
                    clear hn229_1
                    clear hn229_2
                    replace p229 := eq_true p229
                    replace q229 := eq_true q229
                    go_wp2
                    go_meet
                    case rel => exact ⟨_, (decide ((wrap64 ((wrap64 (x3_1 + (wrap64 ((rd_T65 t222 0).f1)))) + 4)) ≤ (a0.size : Int))), (by first | rfl | (simp; done) | (simp [*]; done)), H', ⟨by have := HK1.out; first | omega | exact Nat.le_refl _⟩, ⟨by (with_reducible repeat (first | apply Kd.R_alloc | apply Kd.R_drewN | apply Kd.R_drew)); exact Kd.R_mono (Kd.R_far (p := ⟨gb227, 2, none⟩) (Kd.R_far (p := ⟨gb227, 1, none⟩) (Kd.R_far (p := ⟨gb227, 0, none⟩) (Kd.R_types HO224.out BK227.out (by decide)) (fun _ hk => hk.2) (.slice (some ad228) t222.length co11)) (fun _ hk => hk.2) (.int .i64 t225)) (fun _ hk => hk.2) (.int .i64 t226)) (fun _ hk => trivial)⟩, ⟨by (with_reducible repeat (first | refine blk_drewN ?_ _ | refine blk_drew ?_ | refine blk_alloc ?_ _)); refine blk_far ?_ NB221_227.out _; (with_reducible repeat (first | refine blk_drewN ?_ _ | refine blk_drew ?_ | refine blk_alloc ?_ _)); refine blk_far ?_ NB221_227.out _; (with_reducible repeat (first | refine blk_drewN ?_ _ | refine blk_drew ?_ | refine blk_alloc ?_ _)); refine blk_far ?_ NB221_227.out _; (with_reducible repeat (first | refine blk_drewN ?_ _ | refine blk_drew ?_ | refine blk_alloc ?_ _)); exact BK221.out⟩, ⟨by (with_reducible repeat (first | refine blk_drewN ?_ _ | refine blk_drew ?_ | refine blk_alloc ?_ _)); refine blk_put (cs := #[.slice (some ad228) t222.length co11, .int .i64 t225, .int .i64 0]) ?_ 2 _ rfl; (with_reducible repeat (first | refine blk_drewN ?_ _ | refine blk_drew ?_ | refine blk_alloc ?_ _)); refine blk_put (cs := #[.slice (some ad228) t222.length co11, .int .i64 0, .int .i64 0]) ?_ 1 _ rfl; (with_reducible repeat (first | refine blk_drewN ?_ _ | refine blk_drew ?_ | refine blk_alloc ?_ _)); refine blk_put (cs := #[.slice none 0 0, .int .i64 0, .int .i64 0]) ?_ 0 _ rfl; (with_reducible repeat (first | refine blk_drewN ?_ _ | refine blk_drew ?_ | refine blk_alloc ?_ _)); exact BK227.out⟩, ⟨by repeat (first | (with_reducible first | exact HB.out | apply below_alloc | apply pw_below_drewN | apply below_drew1 | refine below_set ?_ GE221.out | refine below_set ?_ GE227.out) | exact HB.out)⟩⟩
                  · rw [if_neg c16] at H
                    have c16b0 : decide (((rd_T65 t222 0).f1) ≤ 1024) = false := decide_eq_false c16
                    clear c16
                    have H' := Aside0.mk H
                    clear H
                    have hnb19 := NB227_221.out
                    have hnc19 := NB221_227.out
                    have hcz20_0 : w10.cell? ⟨gb227, 0, none⟩ = some (.slice none 0 0) := (blk_cell BK227.out 0).trans rfl
                    have hcz20_1 : w10.cell? ⟨gb227, 1, none⟩ = some (.int .i64 0) := (blk_cell BK227.out 1).trans rfl
                    have hcz20_2 : w10.cell? ⟨gb227, 2, none⟩ = some (.int .i64 0) := (blk_cell BK227.out 2).trans rfl
                    have hfz20_0 := blk_frozen BK227.out 0
                    have hfz20_1 := blk_frozen BK227.out 1
                    have hfz20_2 := blk_frozen BK227.out 2
                    have p228 : 0 ≤ (0 : Int) := (by omega)
                    have q228 : 0 < (t222.length : Int) := of_decide_eq_true (by first | (with_reducible assumption) | assumption)
                    obtain ⟨ad228, e228, hx228_0, hx228_1, hx228_2⟩ := at_T65 (Kd.R_reads' HO224.out).2.2 0 p228 q228
                    cases e228
                    have qi228 : (0 < t222.length) = True := eq_true (by omega)
                    (try rw [show ((0 : Int)).toNat = 0 from rfl] at hx228_0)
                    (try rw [show 0 * 3 = 0 from rfl] at hx228_0)
                    (try rw [Addr.add_zero'] at hx228_0)
                    (try rw [show ((0 : Int)).toNat = 0 from rfl] at hx228_1)
                    (try rw [show 0 * 3 = 0 from rfl] at hx228_1)
                    (try rw [Addr.add_zero'] at hx228_1)
                    (try rw [show ((0 : Int)).toNat = 0 from rfl] at hx228_2)
                    (try rw [show 0 * 3 = 0 from rfl] at hx228_2)
                    (try rw [Addr.add_zero'] at hx228_2)
                    have hn228_0 : ad228.block ≠ gb227 := Kd.own_blk (Kd.R_ne HO224.out BK227.out (by decide))
                    have hn228_1 : ad228.block ≠ gb227 := Kd.own_blk (Kd.R_ne HO224.out BK227.out (by decide))
                    have hn228_2 : ad228.block ≠ gb227 := Kd.own_blk (Kd.R_ne HO224.out BK227.out (by decide))
                    replace hx228_0 := (cell_far (p := ⟨gb227, 0, none⟩) (by first | (rw [add_block]; exact hn228_0) | (show (Addr.add _ _).block ≠ _; rw [add_block]; exact hn228_0) | exact hn228_0) (.slice (some ad228) t222.length co11)).trans hx228_0
                    replace hx228_1 := (cell_far (p := ⟨gb227, 0, none⟩) (by first | (rw [add_block]; exact hn228_0) | (show (Addr.add _ _).block ≠ _; rw [add_block]; exact hn228_0) | exact hn228_0) (.slice (some ad228) t222.length co11)).trans hx228_1
                    replace hx228_2 := (cell_far (p := ⟨gb227, 0, none⟩) (by first | (rw [add_block]; exact hn228_0) | (show (Addr.add _ _).block ≠ _; rw [add_block]; exact hn228_0) | exact hn228_0) (.slice (some ad228) t222.length co11)).trans hx228_2
                    replace hx228_0 := (cell_far (p := ⟨gb227, 1, none⟩) (by first | (rw [add_block]; exact hn228_1) | (show (Addr.add _ _).block ≠ _; rw [add_block]; exact hn228_1) | exact hn228_1) (.int .i64 t225)).trans hx228_0
                    replace hx228_1 := (cell_far (p := ⟨gb227, 1, none⟩) (by first | (rw [add_block]; exact hn228_1) | (show (Addr.add _ _).block ≠ _; rw [add_block]; exact hn228_1) | exact hn228_1) (.int .i64 t225)).trans hx228_1
                    replace hx228_2 := (cell_far (p := ⟨gb227, 1, none⟩) (by first | (rw [add_block]; exact hn228_1) | (show (Addr.add _ _).block ≠ _; rw [add_block]; exact hn228_1) | exact hn228_1) (.int .i64 t225)).trans hx228_2
                    replace hx228_0 := (cell_far (p := ⟨gb227, 2, none⟩) (by first | (rw [add_block]; exact hn228_2) | (show (Addr.add _ _).block ≠ _; rw [add_block]; exact hn228_2) | exact hn228_2) (.int .i64 t226)).trans hx228_0
                    replace hx228_1 := (cell_far (p := ⟨gb227, 2, none⟩) (by first | (rw [add_block]; exact hn228_2) | (show (Addr.add _ _).block ≠ _; rw [add_block]; exact hn228_2) | exact hn228_2) (.int .i64 t226)).trans hx228_1
                    replace hx228_2 := (cell_far (p := ⟨gb227, 2, none⟩) (by first | (rw [add_block]; exact hn228_2) | (show (Addr.add _ _).block ≠ _; rw [add_block]; exact hn228_2) | exact hn228_2) (.int .i64 t226)).trans hx228_2
                    clear hn228_0
                    clear hn228_1
                    clear hn228_2
                    replace p228 := eq_true p228
                    replace q228 := eq_true q228
                    go_wp2
                    go_meet
                    case rel => exact ⟨_, (false), (by first | rfl | (simp; done) | (simp [*]; done)), H', ⟨by have := HK1.out; first | omega | exact Nat.le_refl _⟩, ⟨by (with_reducible repeat (first | apply Kd.R_alloc | apply Kd.R_drewN | apply Kd.R_drew)); exact Kd.R_mono (Kd.R_far (p := ⟨gb227, 2, none⟩) (Kd.R_far (p := ⟨gb227, 1, none⟩) (Kd.R_far (p := ⟨gb227, 0, none⟩) (Kd.R_types HO224.out BK227.out (by decide)) (fun _ hk => hk.2) (.slice (some ad228) t222.length co11)) (fun _ hk => hk.2) (.int .i64 t225)) (fun _ hk => hk.2) (.int .i64 t226)) (fun _ hk => trivial)⟩, ⟨by (with_reducible repeat (first | refine blk_drewN ?_ _ | refine blk_drew ?_ | refine blk_alloc ?_ _)); refine blk_far ?_ NB221_227.out _; (with_reducible repeat (first | refine blk_drewN ?_ _ | refine blk_drew ?_ | refine blk_alloc ?_ _)); refine blk_far ?_ NB221_227.out _; (with_reducible repeat (first | refine blk_drewN ?_ _ | refine blk_drew ?_ | refine blk_alloc ?_ _)); refine blk_far ?_ NB221_227.out _; (with_reducible repeat (first | refine blk_drewN ?_ _ | refine blk_drew ?_ | refine blk_alloc ?_ _)); exact BK221.out⟩, ⟨by (with_reducible repeat (first | refine blk_drewN ?_ _ | refine blk_drew ?_ | refine blk_alloc ?_ _)); refine blk_put (cs := #[.slice (some ad228) t222.length co11, .int .i64 t225, .int .i64 0]) ?_ 2 _ rfl; (with_reducible repeat (first | refine blk_drewN ?_ _ | refine blk_drew ?_ | refine blk_alloc ?_ _)); refine blk_put (cs := #[.slice (some ad228) t222.length co11, .int .i64 0, .int .i64 0]) ?_ 1 _ rfl; (with_reducible repeat (first | refine blk_drewN ?_ _ | refine blk_drew ?_ | refine blk_alloc ?_ _)); refine blk_put (cs := #[.slice none 0 0, .int .i64 0, .int .i64 0]) ?_ 0 _ rfl; (with_reducible repeat (first | refine blk_drewN ?_ _ | refine blk_drew ?_ | refine blk_alloc ?_ _)); exact BK227.out⟩, ⟨by repeat (first | (with_reducible first | exact HB.out | apply below_alloc | apply pw_below_drewN | apply below_drew1 | refine below_set ?_ GE221.out | refine below_set ?_ GE227.out) | exact HB.out)⟩⟩
                · rw [if_neg c15] at H
                  exact absurd H (by simp)
              · rw [if_neg c14] at H
                have c14b0 : (t226 == 0) = false := beq_eq_false_iff_ne.mpr c14
                have c14b1 : (t226 != 0) = true := bne_iff_ne.mpr c14
                (first | rw [c14b0] | (simp only [i64_w, i32_w]; rw [c14b0]) | skip)
                have H' := Aside0.mk H
                clear H
                have hnb21 := NB227_221.out
                have hnc21 := NB221_227.out
                have hcz22_0 : w10.cell? ⟨gb227, 0, none⟩ = some (.slice none 0 0) := (blk_cell BK227.out 0).trans rfl
                have hcz22_1 : w10.cell? ⟨gb227, 1, none⟩ = some (.int .i64 0) := (blk_cell BK227.out 1).trans rfl
                have hcz22_2 : w10.cell? ⟨gb227, 2, none⟩ = some (.int .i64 0) := (blk_cell BK227.out 2).trans rfl
                have hfz22_0 := blk_frozen BK227.out 0
                have hfz22_1 := blk_frozen BK227.out 1
                have hfz22_2 := blk_frozen BK227.out 2
                go_wp2
                go_meet
                case rel => exact ⟨_, (false), (by first | rfl | (simp; done) | (simp [*]; done)), H', ⟨by have := HK1.out; first | omega | exact Nat.le_refl _⟩, ⟨by (with_reducible repeat (first | apply Kd.R_alloc | apply Kd.R_drewN | apply Kd.R_drew)); exact Kd.R_mono (Kd.R_far (p := ⟨gb227, 2, none⟩) (Kd.R_far (p := ⟨gb227, 1, none⟩) (Kd.R_far (p := ⟨gb227, 0, none⟩) (Kd.R_types HO224.out BK227.out (by decide)) (fun _ hk => hk.2) (.slice Ao11 t222.length co11)) (fun _ hk => hk.2) (.int .i64 t225)) (fun _ hk => hk.2) (.int .i64 t226)) (fun _ hk => trivial)⟩, ⟨by (with_reducible repeat (first | refine blk_drewN ?_ _ | refine blk_drew ?_ | refine blk_alloc ?_ _)); refine blk_far ?_ NB221_227.out _; (with_reducible repeat (first | refine blk_drewN ?_ _ | refine blk_drew ?_ | refine blk_alloc ?_ _)); refine blk_far ?_ NB221_227.out _; (with_reducible repeat (first | refine blk_drewN ?_ _ | refine blk_drew ?_ | refine blk_alloc ?_ _)); refine blk_far ?_ NB221_227.out _; (with_reducible repeat (first | refine blk_drewN ?_ _ | refine blk_drew ?_ | refine blk_alloc ?_ _)); exact BK221.out⟩, ⟨by (with_reducible repeat (first | refine blk_drewN ?_ _ | refine blk_drew ?_ | refine blk_alloc ?_ _)); refine blk_put (cs := #[.slice Ao11 t222.length co11, .int .i64 t225, .int .i64 0]) ?_ 2 _ rfl; (with_reducible repeat (first | refine blk_drewN ?_ _ | refine blk_drew ?_ | refine blk_alloc ?_ _)); refine blk_put (cs := #[.slice Ao11 t222.length co11, .int .i64 0, .int .i64 0]) ?_ 1 _ rfl; (with_reducible repeat (first | refine blk_drewN ?_ _ | refine blk_drew ?_ | refine blk_alloc ?_ _)); refine blk_put (cs := #[.slice none 0 0, .int .i64 0, .int .i64 0]) ?_ 0 _ rfl; (with_reducible repeat (first | refine blk_drewN ?_ _ | refine blk_drew ?_ | refine blk_alloc ?_ _)); exact BK227.out⟩, ⟨by repeat (first | (with_reducible first | exact HB.out | apply below_alloc | apply pw_below_drewN | apply below_drew1 | refine below_set ?_ GE221.out | refine below_set ?_ GE227.out) | exact HB.out)⟩⟩
            case rest =>
              clear HC8
              try clear c1
              try clear c2
              try clear p2
              try clear q2
              try clear hx2
              try clear qi2
              try clear c3
              try clear c3b0
              try clear c4
              try clear c4b0
              try clear c5
              try clear c5b0
              try clear c5b1
              try clear c6
              try clear c6b0
              try clear p6
              try clear c12
              try clear c14
              try clear c14b0
              try clear c14b1
              try clear c15
              try clear c15b0
              try clear c15b1
              try clear c16
              try clear c16b0
              try clear c17
              try clear c19
              try clear c21
              try clear p22
              try clear q22
              try clear hx22
              try clear qi22
              try clear hcz13_0
              try clear hcz13_1
              try clear hcz13_2
              try clear hcz18_0
              try clear hcz18_1
              try clear hcz18_2
              try clear hcz20_0
              try clear hcz20_1
              try clear hcz20_2
              try clear hcz22_0
              try clear hcz22_1
              try clear hcz22_2
              try clear hfz13_0
              try clear hfz13_1
              try clear hfz13_2
              try clear hfz18_0
              try clear hfz18_1
              try clear hfz18_2
              try clear hfz20_0
              try clear hfz20_1
              try clear hfz20_2
              try clear hfz22_0
              try clear hfz22_1
              try clear hfz22_2
              try clear hx228_0
              try clear hx228_1
              try clear hx228_2
              try clear hx229_0
              try clear hx229_1
              try clear hx229_2
              try clear p2
              try clear p228
              try clear p229
              try clear q228
              try clear q229
              obtain ⟨kq, x42_7, rfl, HA, HJ7, HO_228000, BK221, BK227, HB⟩ := hcut
              cases kq with
              | zero => exact absurd HA.out (by simp [demurralref09_one.j1])
              | succ kj7 =>
                have H := HA.out
                clear HA
                simp only [demurralref09_one.j1] at H
                generalize hcutx : a0.extract (x3_1 : Int).toNat ((wrap64 (x3_1 + (wrap64 ((rd_T65 t222 0).f1)))) : Int).toNat = cutx at H ⊢
                by_cases c23 : x42_7 = true
                · subst c23
                  have H1 : (if 0 < (t222.length : Int) then (if 0 ≤ x3_1 then (if x3_1 ≤ (wrap64 (x3_1 + (wrap64 ((rd_T65 t222 0).f1)))) then (if (wrap64 (x3_1 + (wrap64 ((rd_T65 t222 0).f1)))) ≤ (a0.size : Int) then ((demurralref09_Record.f kj7 cutx).bind fun t231 => (if 0 ≤ (wrap64 ((wrap64 (x3_1 + (cutx.size : Int))) + 4)) then (if (wrap64 ((wrap64 (x3_1 + (cutx.size : Int))) + 4)) ≤ (a0.size : Int) then (if t231.toList = (a0.extract 0 ((wrap64 ((wrap64 (x3_1 + (cutx.size : Int))) + 4)) : Int).toNat).toList then (some ((([cutx] : List ByteArray)), wrap64 ((wrap64 (x3_1 + (cutx.size : Int))) + 4))) else (demurralref09_one.l0 kj7 a0 (wrap64 (x3_1 + 1)))) else (none)) else (none))) else (none)) else (none)) else (none)) else (none)) = some (r1, r2) := by rw [if_pos rfl] at H; exact H
                  clear H
                  have H := H1
                  clear H1
                  by_cases c24 : 0 < (t222.length : Int)
                  · rw [if_pos c24] at H
                    have c24b0 : decide (0 < (t222.length : Int)) = true := decide_eq_true c24
                    have c24b1 : decide (0 < t222.length) = true := decide_eq_true (by omega)
                    clear c24
                    by_cases c25 : 0 ≤ x3_1
                    · rw [if_pos c25] at H
                      have c25b0 := eq_true c25
                      have c25b1 : decide (0 ≤ x3_1) = true := decide_eq_true c25
                      clear c25
                      by_cases c26 : x3_1 ≤ (wrap64 (x3_1 + (wrap64 ((rd_T65 t222 0).f1))))
                      · rw [if_pos c26] at H
                        have c26b0 := eq_true c26
                        have c26b1 : decide (x3_1 ≤ (wrap64 (x3_1 + (wrap64 ((rd_T65 t222 0).f1))))) = true := decide_eq_true c26
                        by_cases c27 : (wrap64 (x3_1 + (wrap64 ((rd_T65 t222 0).f1)))) ≤ (a0.size : Int)
                        · rw [if_pos c27] at H
                          have c27b0 := eq_true c27
                          have c27b1 : decide ((wrap64 (x3_1 + (wrap64 ((rd_T65 t222 0).f1)))) ≤ (a0.size : Int)) = true := decide_eq_true c27
                          replace H := Option.bind_eq_some_iff.mp H
                          obtain ⟨t231, A280, H⟩ := H
                          replace H : (if 0 ≤ (wrap64 ((wrap64 (x3_1 + (cutx.size : Int))) + 4)) then (if (wrap64 ((wrap64 (x3_1 + (cutx.size : Int))) + 4)) ≤ (a0.size : Int) then (if t231.toList = (a0.extract 0 ((wrap64 ((wrap64 (x3_1 + (cutx.size : Int))) + 4)) : Int).toNat).toList then (some ((([cutx] : List ByteArray)), wrap64 ((wrap64 (x3_1 + (cutx.size : Int))) + 4))) else (demurralref09_one.l0 kj7 a0 (wrap64 (x3_1 + 1)))) else (none)) else (none)) = some (r1, r2) := H
                          have A28 := Aside0.mk A280
                          clear A280
                          obtain ⟨ji29, hji29⟩ : ∃ j_ : Int, (wrap64 ((wrap64 (x3_1 + (cutx.size : Int))) + 4)) = j_ := ⟨_, rfl⟩
                          replace H : (if 0 ≤ (ji29) then (if (ji29) ≤ (a0.size : Int) then (if t231.toList = (a0.extract 0 ((ji29) : Int).toNat).toList then (some ((([cutx] : List ByteArray)), ji29)) else (demurralref09_one.l0 kj7 a0 (wrap64 (x3_1 + 1)))) else (none)) else (none)) = some (r1, r2) := by first | (rw [hji29] at H; exact H) | (simp only [hji29] at H ⊢; exact H)
                          (try rw [hji29] at A28)
                          have hji29w : (IntKind.i64.wrap ((wrap64 (x3_1 + (cutx.size : Int))) + 4)) = ji29 := (i64_w _).trans hji29
                          by_cases c30 : 0 ≤ (ji29)
                          · rw [if_pos c30] at H
                            have c30b0 := eq_true c30
                            have c30b1 : decide (0 ≤ (ji29)) = true := decide_eq_true c30
                            clear c30
                            by_cases c31 : (ji29) ≤ (a0.size : Int)
                            · rw [if_pos c31] at H
                              have c31b0 := eq_true c31
                              have c31b1 : decide ((ji29) ≤ (a0.size : Int)) = true := decide_eq_true c31
                              clear c31
                              by_cases c32 : t231.toList = (a0.extract 0 ((ji29) : Int).toNat).toList
                              · rw [if_pos c32] at H
                                have c32b0 : (t231.toList == (a0.extract 0 ((ji29) : Int).toNat).toList) = true := beq_iff_eq.mpr c32
                                have c32b1 : (t231.toList != (a0.extract 0 ((ji29) : Int).toNat).toList) = false := bne_eq_false_iff_eq.mpr c32
                                clear c32
                                obtain ⟨y232, hy232⟩ : ∃ y_ : List ByteArray, y_ = (([cutx] : List ByteArray)) := ⟨_, rfl⟩
                                replace H : (some (y232, ji29)) = some (r1, r2) := by first | (rw [hy232]; with_reducible exact H) | (have H2_ := (Option.bind_some _ _).symm.trans H; rw [hy232]; with_reducible exact H2_) | (have H2_ := (Option.bind_some _ _).symm.trans H; with_reducible exact H2_) | with_reducible exact H | (rw [hy232]; exact H) | exact H
                                have Ny232 := Aside0.mk hy232
                                clear hy232
                                simp only [Option.some.injEq, Prod.mk.injEq] at H
                                obtain ⟨rfl, rfl⟩ := H
                                have hnb33 := NB227_221.out
                                have hnc33 := NB221_227.out
                                have hcz34_0 : wc.cell? ⟨gb227, 0, none⟩ = some (.slice Ao11 t222.length co11) := (blk_cell BK227.out 0).trans rfl
                                have hcz34_1 : wc.cell? ⟨gb227, 1, none⟩ = some (.int .i64 t225) := (blk_cell BK227.out 1).trans rfl
                                have hcz34_2 : wc.cell? ⟨gb227, 2, none⟩ = some (.int .i64 t226) := (blk_cell BK227.out 2).trans rfl
                                have hfz34_0 := blk_frozen BK227.out 0
                                have hfz34_1 := blk_frozen BK227.out 1
                                have hfz34_2 := blk_frozen BK227.out 2
                                have p230 : 0 ≤ (0 : Int) := (by omega)
                                have q230 : 0 < (t222.length : Int) := of_decide_eq_true (by first | (with_reducible assumption) | assumption)
                                obtain ⟨ad230, e230, hx230_0, hx230_1, hx230_2⟩ := at_T65 (Kd.R_reads' HO_228000.out).2.2 0 p230 q230
                                cases e230
                                have qi230 : (0 < t222.length) = True := eq_true (by omega)
                                (try rw [show ((0 : Int)).toNat = 0 from rfl] at hx230_0)
                                (try rw [show 0 * 3 = 0 from rfl] at hx230_0)
                                (try rw [Addr.add_zero'] at hx230_0)
                                (try rw [show ((0 : Int)).toNat = 0 from rfl] at hx230_1)
                                (try rw [show 0 * 3 = 0 from rfl] at hx230_1)
                                (try rw [Addr.add_zero'] at hx230_1)
                                (try rw [show ((0 : Int)).toNat = 0 from rfl] at hx230_2)
                                (try rw [show 0 * 3 = 0 from rfl] at hx230_2)
                                (try rw [Addr.add_zero'] at hx230_2)
                                replace p230 := eq_true p230
                                replace q230 := eq_true q230
                                try go_wp2
                                have n0_ := Aside0.mk (Kd.R_drew HO_228000.out)
                                have n1_ := Aside0.mk (blk_drew BK221.out)
                                have n2_ := Aside0.mk (blk_drew BK227.out)
                                have n3_ := Aside0.mk (below_drew1 HB.out)
                                clear HO_228000
                                clear BK221
                                clear BK227
                                clear HB
                                have HO_228000 := n0_
                                have BK221 := n1_
                                have BK227 := n2_
                                have HB := n3_
                                clear n0_ n1_ n2_ n3_
                                refine start_ (n := 10) (S := fun w' => True) (ds := []) #[false, false, false, false, false, false, false, false, false, false] (by kernel_rfl) rfl rfl trivial (fun hHeld => ?_); refine with_tabW demurralref09_one.tab8 demurralref09_one.bits8 (fun HT_ HW_ => ?_)
                                generalize wc.drew = w35 at HO_228000 BK221 BK227 HB hHeld ⊢
                                refine pure_ (i := 0) (N := some 54) (v := ?_) (a' := ?_) #[true, false, false, false, false, false, false, false, false, false] rfl rfl (any_of HT_.out (by kernel_rfl)) (fun _ _ _ h => h) (Or.inl ⟨by rfl, ?_⟩) ?_ ?_
                                rotate_left
                                · intro w'
                                  go_simp
                                  with_reducible rfl
                                rotate_left
                                · simp only [Act.put, List.setIfInBounds_toArray, List.set_cons_zero, List.set_cons_succ, i64_w, i32_w]
                                  rfl
                                refine pure_ (i := 2) (N := some 56) (v := ?_) (a' := ?_) #[true, false, true, false, false, false, false, false, false, false] rfl rfl (any_of HT_.out (by kernel_rfl)) (fun _ _ _ h => h) (Or.inl ⟨by rfl, ?_⟩) ?_ ?_
                                rotate_left
                                · intro w'
                                  go_simp
                                  with_reducible rfl
                                rotate_left
                                · simp only [Act.put, List.setIfInBounds_toArray, List.set_cons_zero, List.set_cons_succ, i64_w, i32_w]
                                  rfl
                                refine pure_ (i := 3) (N := some 57) (v := ?_) (a' := ?_) #[true, false, true, true, false, false, false, false, false, false] rfl rfl (any_of HT_.out (by kernel_rfl)) (fun _ _ _ h => h) (Or.inl ⟨by rfl, ?_⟩) ?_ ?_
                                rotate_left
                                · intro w'
                                  go_simp
                                  with_reducible rfl
                                rotate_left
                                · simp only [Act.put, List.setIfInBounds_toArray, List.set_cons_zero, List.set_cons_succ, i64_w, i32_w]
                                  rfl
                                refine pure_ (i := 4) (N := some 58) (v := ?_) (a' := ?_) #[true, false, true, true, true, false, false, false, false, false] rfl rfl (any_of HT_.out (by kernel_rfl)) (fun _ _ _ h => h) (Or.inl ⟨by rfl, ?_⟩) ?_ ?_
                                rotate_left
                                · intro w'
                                  go_simp
                                  with_reducible rfl
                                rotate_left
                                · simp only [Act.put, List.setIfInBounds_toArray, List.set_cons_zero, List.set_cons_succ, i64_w, i32_w]
                                  rfl
                                refine pure_ (i := 5) (N := some 59) (v := ?_) (a' := ?_) #[true, false, true, true, true, true, false, false, false, false] rfl rfl (any_of HT_.out (by kernel_rfl)) (fun _ _ _ h => h) (Or.inl ⟨by rfl, ?_⟩) ?_ ?_
                                rotate_left
                                · intro w'
                                  go_simp
                                  with_reducible rfl
                                rotate_left
                                · simp only [Act.put, List.setIfInBounds_toArray, List.set_cons_zero, List.set_cons_succ, i64_w, i32_w]
                                  rfl
                                refine pure_ (i := 6) (N := some 60) (v := ?_) (a' := ?_) #[true, false, true, true, true, true, true, false, false, false] rfl rfl (any_of HT_.out (by kernel_rfl)) (fun _ _ _ h => h) (Or.inl ⟨by rfl, ?_⟩) ?_ ?_
                                rotate_left
                                · intro w'
                                  go_simp
                                  with_reducible rfl
                                rotate_left
                                · simp only [Act.put, List.setIfInBounds_toArray, List.set_cons_zero, List.set_cons_succ, i64_w, i32_w]
                                  rfl
                                refine pure_ (i := 7) (N := some 61) (v := ?_) (a' := ?_) #[true, false, true, true, true, true, true, true, false, false] rfl rfl (any_of HT_.out (by kernel_rfl)) (fun _ _ _ h => h) (Or.inl ⟨by rfl, ?_⟩) ?_ ?_
                                rotate_left
                                · intro w'
                                  go_simp
                                  with_reducible rfl
                                rotate_left
                                · simp only [Act.put, List.setIfInBounds_toArray, List.set_cons_zero, List.set_cons_succ, i64_w, i32_w]
                                  rfl
                                refine pure_ (i := 8) (N := some 62) (v := ?_) (a' := ?_) #[true, false, true, true, true, true, true, true, true, false] rfl rfl (any_of HT_.out (by kernel_rfl)) (fun _ _ _ h => h) (Or.inl ⟨by rfl, ?_⟩) ?_ ?_
                                rotate_left
                                · intro w'
                                  go_simp
                                  with_reducible rfl
                                rotate_left
                                · simp only [Act.put, List.setIfInBounds_toArray, List.set_cons_zero, List.set_cons_succ, i64_w, i32_w]
                                  rfl
                                refine one_ (i := 1) (N := some 55) #[true, true, true, true, true, true, true, true, true, false] rfl rfl (one_of HT_.out (by kernel_rfl)) (by decide) (fun K hK => ?_)
                                refine goes_ Try.func14 (by kernel_rfl) rfl #[.string cutx] (by rfl) rfl rfl (by (try simp only [List.map_toArray, List.map_cons, List.map_nil]); first | done | rfl | (simp only [List.length_drop, List.length_take]; rfl) | (simp [Act.eval]; omega)) ?_
                                with_reducible refine (demurralref09_Record.calls kj7 cutx t231 _ A28.out).mono ?_
                                rintro e w36 ⟨rfl, hb⟩
                                refine ⟨_, rfl, ?_⟩
                                have n0_ := Aside0.mk (Kd.R_below (by (with_reducible repeat (first | apply Kd.R_alloc | apply Kd.R_drewN | apply Kd.R_drew)); exact HO_228000.out) hb)
                                have n1_ := Aside0.mk (blk_below (g := gb221) (o := .cells #[.slice none 0 0, .int .i64 x222001_1] 40 (0, 0)) (by (with_reducible repeat (first | refine blk_drewN ?_ _ | refine blk_drew ?_ | refine blk_alloc ?_ _)); exact BK221.out) hb)
                                have n2_ := Aside0.mk (blk_below (g := gb227) (o := .cells #[.slice (some ad230) t222.length co11, .int .i64 t225, .int .i64 t226] 76 (0, 0)) (by (with_reducible repeat (first | refine blk_drewN ?_ _ | refine blk_drew ?_ | refine blk_alloc ?_ _)); exact BK227.out) hb)
                                have n3_ := Aside0.mk (below_step (by repeat (first | (with_reducible first | exact HB.out | apply below_alloc | apply pw_below_drewN | apply below_drew1 | refine below_set ?_ GE221.out | refine below_set ?_ GE227.out) | exact HB.out)) hb)
                                clear HO_228000
                                clear BK221
                                clear BK227
                                clear HB
                                have HO_228000 := n0_
                                have BK221 := n1_
                                have BK227 := n2_
                                have HB := n3_
                                clear n0_ n1_ n2_ n3_
                                (try clear hb)
                                (try clear hb2)
                                (try clear hk)
                                (try clear hi)
                                refine hK.out _ _ trivial (fun hHeld => ?_)
                                clear hK K
                                refine norm_ (a' := ?_) ?_ ?_
                                rotate_left
                                · show Act.put _ (some 55) _ = _
                                  simp only [Act.put, List.setIfInBounds_toArray, List.set_cons_zero, List.set_cons_succ, i64_w, i32_w]
                                  rfl
                                refine pure_ (i := 9) (N := some 63) (v := ?_) (a' := ?_) #[true, true, true, true, true, true, true, true, true, true] rfl rfl (any_of HT_.out (by kernel_rfl)) (fun _ _ _ h => h) (Or.inl ⟨by rfl, ?_⟩) ?_ ?_
                                rotate_left
                                · intro w'
                                  go_simp
                                  with_reducible rfl
                                rotate_left
                                · simp only [Act.put, List.setIfInBounds_toArray, List.set_cons_zero, List.set_cons_succ, i64_w, i32_w]
                                  rfl
                                refine done_ (done_of HT_.out (by kernel_rfl)) ?_
                                try go_wp2_with (first | ((with_reducible refine gate_dst (N := 65) rfl ?_); (try (refine gate_guard (by rfl) ?_; dsimp only)); refine Kd.R_lit Kd.string _ 9 ?hg (N := 65) ?hd (xs := ([cutx] : List ByteArray)) (inner := [.string cutx]) (ok := fun _ => True) (okp := fun _ => True) ?hr ?hp (fun _ hk => hk) trivial (Below.refl _ _) (Nat.le_refl _) (by simp) ?_; (case hd => rfl); (case hg => rfl); (case hr => first | (go_simp; done) | (go_simp; rfl)); (case hp => exact (Reps.one (show Kd.M Kd.string _ _ _ cutx [.string cutx] from rfl) (Reps.none _ _))); intro v233 w37 ho38 hb hg_ hnew_; clear hg_ hnew_; (first | rw [← Ny232.out] at ho38 | (simp only [Int.reduceToNat] at ho38; rw [← Ny232.out] at ho38)); have n0_ := Aside0.mk (Kd.R_below (by (with_reducible repeat (first | apply Kd.R_alloc | apply Kd.R_drewN | apply Kd.R_drew)); exact HO_228000.out) hb); have n1_ := Aside0.mk (Kd.R_lower ho38 (below_size (by repeat (first | (with_reducible first | exact HB.out | apply below_alloc | apply pw_below_drewN | apply below_drew1 | refine below_set ?_ GE221.out | refine below_set ?_ GE227.out) | exact HB.out)))); have n2_ := Aside0.mk (blk_below (g := gb221) (o := .cells #[.slice none 0 0, .int .i64 x222001_1] 40 (0, 0)) (by (with_reducible repeat (first | refine blk_drewN ?_ _ | refine blk_drew ?_ | refine blk_alloc ?_ _)); exact BK221.out) hb); have n3_ := Aside0.mk (blk_below (g := gb227) (o := .cells #[.slice (some ad230) t222.length co11, .int .i64 t225, .int .i64 t226] 76 (0, 0)) (by (with_reducible repeat (first | refine blk_drewN ?_ _ | refine blk_drew ?_ | refine blk_alloc ?_ _)); exact BK227.out) hb); have n4_ := Aside0.mk (below_step (by repeat (first | (with_reducible first | exact HB.out | apply below_alloc | apply pw_below_drewN | apply below_drew1 | refine below_set ?_ GE221.out | refine below_set ?_ GE227.out) | exact HB.out)) hb); clear HO_228000; clear BK221; clear BK227; clear HB; have HO_228000 := n0_; have HO234 := n1_; have BK221 := n2_; have BK227 := n3_; have HB := n4_; clear n0_ n1_ n2_ n3_ n4_; clear hb ho38; obtain ⟨Ao39, co39, eo39⟩ := Kd.R_slice HO234.out; subst eo39; have hcz40_0 : w37.cell? ⟨gb221, 0, none⟩ = some (.slice none 0 0) := (blk_cell BK221.out 0).trans rfl; have hcz40_1 : w37.cell? ⟨gb221, 1, none⟩ = some (.int .i64 x222001_1) := (blk_cell BK221.out 1).trans rfl; have hfz40_0 := blk_frozen BK221.out 0; have hfz40_1 := blk_frozen BK221.out 1))
                                refine bodyPost_ret (results_cell_row rfl _ _ gb221 40 #[.slice Ao39 y232.length co39, .int .i64 ji29] (0, 0) _ rfl (by (with_reducible repeat (first | refine blk_drewN ?_ _ | refine blk_drew ?_ | refine blk_alloc ?_ _)); refine blk_put (cs := #[.slice Ao39 y232.length co39, .int .i64 x222001_1]) ?_ 1 _ rfl; (with_reducible repeat (first | refine blk_drewN ?_ _ | refine blk_drew ?_ | refine blk_alloc ?_ _)); refine blk_put (cs := #[.slice none 0 0, .int .i64 x222001_1]) ?_ 0 _ rfl; (with_reducible repeat (first | refine blk_drewN ?_ _ | refine blk_drew ?_ | refine blk_alloc ?_ _)); exact BK221.out) Try.underlying40 rfl (by kernel_rfl)) rfl ?_
                                exact ⟨_, by first | rfl | (simp [errW_none, errW_some] <;> rfl) | (simp only [← hji29]; first | rfl | (simp [errW_none, errW_some] <;> rfl)) | (simp [*, errW_none, errW_some] <;> rfl), by (with_reducible repeat (first | apply Kd.R_alloc | apply Kd.R_drewN | apply Kd.R_drew)); exact Kd.R_mono (Kd.R_far (p := ⟨gb221, 1, none⟩) (Kd.R_far (p := ⟨gb221, 0, none⟩) (Kd.R_types HO234.out BK221.out (by decide)) (fun _ hk => hk.2) (.slice Ao39 y232.length co39)) (fun _ hk => hk.2) (.int .i64 ji29)) (fun _ hk => trivial), by repeat (first | (with_reducible first | exact HB.out | apply below_alloc | apply pw_below_drewN | apply below_drew1 | refine below_set ?_ GE221.out | refine below_set ?_ GE227.out) | exact HB.out)⟩
                              · rw [if_neg c32] at H
                                have c32b0 : (t231.toList == (a0.extract 0 ((ji29) : Int).toNat).toList) = false := beq_eq_false_iff_ne.mpr c32
                                have c32b1 : (t231.toList != (a0.extract 0 ((ji29) : Int).toNat).toList) = true := bne_iff_ne.mpr c32
                                have H' := Aside0.mk H
                                clear H
                                have hnb41 := NB227_221.out
                                have hnc41 := NB221_227.out
                                have hcz42_0 : wc.cell? ⟨gb227, 0, none⟩ = some (.slice Ao11 t222.length co11) := (blk_cell BK227.out 0).trans rfl
                                have hcz42_1 : wc.cell? ⟨gb227, 1, none⟩ = some (.int .i64 t225) := (blk_cell BK227.out 1).trans rfl
                                have hcz42_2 : wc.cell? ⟨gb227, 2, none⟩ = some (.int .i64 t226) := (blk_cell BK227.out 2).trans rfl
                                have hfz42_0 := blk_frozen BK227.out 0
                                have hfz42_1 := blk_frozen BK227.out 1
                                have hfz42_2 := blk_frozen BK227.out 2
                                have p230 : 0 ≤ (0 : Int) := (by omega)
                                have q230 : 0 < (t222.length : Int) := of_decide_eq_true (by first | (with_reducible assumption) | assumption)
                                obtain ⟨ad230, e230, hx230_0, hx230_1, hx230_2⟩ := at_T65 (Kd.R_reads' HO_228000.out).2.2 0 p230 q230
                                cases e230
                                have qi230 : (0 < t222.length) = True := eq_true (by omega)
                                (try rw [show ((0 : Int)).toNat = 0 from rfl] at hx230_0)
                                (try rw [show 0 * 3 = 0 from rfl] at hx230_0)
                                (try rw [Addr.add_zero'] at hx230_0)
                                (try rw [show ((0 : Int)).toNat = 0 from rfl] at hx230_1)
                                (try rw [show 0 * 3 = 0 from rfl] at hx230_1)
                                (try rw [Addr.add_zero'] at hx230_1)
                                (try rw [show ((0 : Int)).toNat = 0 from rfl] at hx230_2)
                                (try rw [show 0 * 3 = 0 from rfl] at hx230_2)
                                (try rw [Addr.add_zero'] at hx230_2)
                                replace p230 := eq_true p230
                                replace q230 := eq_true q230
                                try go_wp2
                                have n0_ := Aside0.mk (Kd.R_drew HO_228000.out)
                                have n1_ := Aside0.mk (blk_drew BK221.out)
                                have n2_ := Aside0.mk (blk_drew BK227.out)
                                have n3_ := Aside0.mk (below_drew1 HB.out)
                                clear HO_228000
                                clear BK221
                                clear BK227
                                clear HB
                                have HO_228000 := n0_
                                have BK221 := n1_
                                have BK227 := n2_
                                have HB := n3_
                                clear n0_ n1_ n2_ n3_
                                refine start_ (n := 10) (S := fun w' => True) (ds := []) #[false, false, false, false, false, false, false, false, false, false] (by kernel_rfl) rfl rfl trivial (fun hHeld => ?_); refine with_tabW demurralref09_one.tab8 demurralref09_one.bits8 (fun HT_ HW_ => ?_)
                                generalize wc.drew = w43 at HO_228000 BK221 BK227 HB hHeld ⊢
                                refine pure_ (i := 0) (N := some 54) (v := ?_) (a' := ?_) #[true, false, false, false, false, false, false, false, false, false] rfl rfl (any_of HT_.out (by kernel_rfl)) (fun _ _ _ h => h) (Or.inl ⟨by rfl, ?_⟩) ?_ ?_
                                rotate_left
                                · intro w'
                                  go_simp
                                  with_reducible rfl
                                rotate_left
                                · simp only [Act.put, List.setIfInBounds_toArray, List.set_cons_zero, List.set_cons_succ, i64_w, i32_w]
                                  rfl
                                refine pure_ (i := 2) (N := some 56) (v := ?_) (a' := ?_) #[true, false, true, false, false, false, false, false, false, false] rfl rfl (any_of HT_.out (by kernel_rfl)) (fun _ _ _ h => h) (Or.inl ⟨by rfl, ?_⟩) ?_ ?_
                                rotate_left
                                · intro w'
                                  go_simp
                                  with_reducible rfl
                                rotate_left
                                · simp only [Act.put, List.setIfInBounds_toArray, List.set_cons_zero, List.set_cons_succ, i64_w, i32_w]
                                  rfl
                                refine pure_ (i := 3) (N := some 57) (v := ?_) (a' := ?_) #[true, false, true, true, false, false, false, false, false, false] rfl rfl (any_of HT_.out (by kernel_rfl)) (fun _ _ _ h => h) (Or.inl ⟨by rfl, ?_⟩) ?_ ?_
                                rotate_left
                                · intro w'
                                  go_simp
                                  with_reducible rfl
                                rotate_left
                                · simp only [Act.put, List.setIfInBounds_toArray, List.set_cons_zero, List.set_cons_succ, i64_w, i32_w]
                                  rfl
                                refine pure_ (i := 4) (N := some 58) (v := ?_) (a' := ?_) #[true, false, true, true, true, false, false, false, false, false] rfl rfl (any_of HT_.out (by kernel_rfl)) (fun _ _ _ h => h) (Or.inl ⟨by rfl, ?_⟩) ?_ ?_
                                rotate_left
                                · intro w'
                                  go_simp
                                  with_reducible rfl
                                rotate_left
                                · simp only [Act.put, List.setIfInBounds_toArray, List.set_cons_zero, List.set_cons_succ, i64_w, i32_w]
                                  rfl
                                refine pure_ (i := 5) (N := some 59) (v := ?_) (a' := ?_) #[true, false, true, true, true, true, false, false, false, false] rfl rfl (any_of HT_.out (by kernel_rfl)) (fun _ _ _ h => h) (Or.inl ⟨by rfl, ?_⟩) ?_ ?_
                                rotate_left
                                · intro w'
                                  go_simp
                                  with_reducible rfl
                                rotate_left
                                · simp only [Act.put, List.setIfInBounds_toArray, List.set_cons_zero, List.set_cons_succ, i64_w, i32_w]
                                  rfl
                                refine pure_ (i := 6) (N := some 60) (v := ?_) (a' := ?_) #[true, false, true, true, true, true, true, false, false, false] rfl rfl (any_of HT_.out (by kernel_rfl)) (fun _ _ _ h => h) (Or.inl ⟨by rfl, ?_⟩) ?_ ?_
                                rotate_left
                                · intro w'
                                  go_simp
                                  with_reducible rfl
                                rotate_left
                                · simp only [Act.put, List.setIfInBounds_toArray, List.set_cons_zero, List.set_cons_succ, i64_w, i32_w]
                                  rfl
                                refine pure_ (i := 7) (N := some 61) (v := ?_) (a' := ?_) #[true, false, true, true, true, true, true, true, false, false] rfl rfl (any_of HT_.out (by kernel_rfl)) (fun _ _ _ h => h) (Or.inl ⟨by rfl, ?_⟩) ?_ ?_
                                rotate_left
                                · intro w'
                                  go_simp
                                  with_reducible rfl
                                rotate_left
                                · simp only [Act.put, List.setIfInBounds_toArray, List.set_cons_zero, List.set_cons_succ, i64_w, i32_w]
                                  rfl
                                refine pure_ (i := 8) (N := some 62) (v := ?_) (a' := ?_) #[true, false, true, true, true, true, true, true, true, false] rfl rfl (any_of HT_.out (by kernel_rfl)) (fun _ _ _ h => h) (Or.inl ⟨by rfl, ?_⟩) ?_ ?_
                                rotate_left
                                · intro w'
                                  go_simp
                                  with_reducible rfl
                                rotate_left
                                · simp only [Act.put, List.setIfInBounds_toArray, List.set_cons_zero, List.set_cons_succ, i64_w, i32_w]
                                  rfl
                                refine one_ (i := 1) (N := some 55) #[true, true, true, true, true, true, true, true, true, false] rfl rfl (one_of HT_.out (by kernel_rfl)) (by decide) (fun K hK => ?_)
                                refine goes_ Try.func14 (by kernel_rfl) rfl #[.string cutx] (by rfl) rfl rfl (by (try simp only [List.map_toArray, List.map_cons, List.map_nil]); first | done | rfl | (simp only [List.length_drop, List.length_take]; rfl) | (simp [Act.eval]; omega)) ?_
                                with_reducible refine (demurralref09_Record.calls kj7 cutx t231 _ A28.out).mono ?_
                                rintro e w44 ⟨rfl, hb⟩
                                refine ⟨_, rfl, ?_⟩
                                have n0_ := Aside0.mk (Kd.R_below (by (with_reducible repeat (first | apply Kd.R_alloc | apply Kd.R_drewN | apply Kd.R_drew)); exact HO_228000.out) hb)
                                have n1_ := Aside0.mk (blk_below (g := gb221) (o := .cells #[.slice none 0 0, .int .i64 x222001_1] 40 (0, 0)) (by (with_reducible repeat (first | refine blk_drewN ?_ _ | refine blk_drew ?_ | refine blk_alloc ?_ _)); exact BK221.out) hb)
                                have n2_ := Aside0.mk (blk_below (g := gb227) (o := .cells #[.slice (some ad230) t222.length co11, .int .i64 t225, .int .i64 t226] 76 (0, 0)) (by (with_reducible repeat (first | refine blk_drewN ?_ _ | refine blk_drew ?_ | refine blk_alloc ?_ _)); exact BK227.out) hb)
                                have n3_ := Aside0.mk (below_step (by repeat (first | (with_reducible first | exact HB.out | apply below_alloc | apply pw_below_drewN | apply below_drew1 | refine below_set ?_ GE221.out | refine below_set ?_ GE227.out) | exact HB.out)) hb)
                                clear HO_228000
                                clear BK221
                                clear BK227
                                clear HB
                                have HO_228000 := n0_
                                have BK221 := n1_
                                have BK227 := n2_
                                have HB := n3_
                                clear n0_ n1_ n2_ n3_
                                (try clear hb)
                                (try clear hb2)
                                (try clear hk)
                                (try clear hi)
                                refine hK.out _ _ trivial (fun hHeld => ?_)
                                clear hK K
                                refine norm_ (a' := ?_) ?_ ?_
                                rotate_left
                                · show Act.put _ (some 55) _ = _
                                  simp only [Act.put, List.setIfInBounds_toArray, List.set_cons_zero, List.set_cons_succ, i64_w, i32_w]
                                  rfl
                                refine pure_ (i := 9) (N := some 63) (v := ?_) (a' := ?_) #[true, true, true, true, true, true, true, true, true, true] rfl rfl (any_of HT_.out (by kernel_rfl)) (fun _ _ _ h => h) (Or.inl ⟨by rfl, ?_⟩) ?_ ?_
                                rotate_left
                                · intro w'
                                  go_simp
                                  with_reducible rfl
                                rotate_left
                                · simp only [Act.put, List.setIfInBounds_toArray, List.set_cons_zero, List.set_cons_succ, i64_w, i32_w]
                                  rfl
                                refine done_ (done_of HT_.out (by kernel_rfl)) ?_
                                try go_wp2
                                go_roundg kj7
                                case measure => have := HK1.out; have := HJ7.out; omega
                                case rel => exact ⟨(wrap64 (x3_1 + 1)), (x222001_1), (by first | rfl | (simp; done) | (simp [*]; done)), H', ⟨by have := HK1.out; have := HJ7.out; omega⟩, ⟨by (with_reducible repeat (first | refine blk_drewN ?_ _ | refine blk_drew ?_ | refine blk_alloc ?_ _)); exact BK221.out⟩, ⟨by repeat (first | (with_reducible first | exact HB.out | apply below_alloc | apply pw_below_drewN | apply below_drew1 | refine below_set ?_ GE221.out | refine below_set ?_ GE227.out) | exact HB.out)⟩⟩
                            · rw [if_neg c31] at H
                              exact absurd H (by simp)
                          · rw [if_neg c30] at H
                            exact absurd H (by simp)
                        · rw [if_neg c27] at H
                          exact absurd H (by simp)
                      · rw [if_neg c26] at H
                        exact absurd H (by simp)
                    · rw [if_neg c25] at H
                      exact absurd H (by simp)
                  · rw [if_neg c24] at H
                    exact absurd H (by simp)
                · replace c23 := Bool.eq_false_iff.mpr c23
                  subst c23
                  have H1 : (demurralref09_one.l0 kj7 a0 (wrap64 (x3_1 + 1))) = some (r1, r2) := by rw [if_neg (show ¬ (false = true) by decide)] at H; exact H
                  clear H
                  have H := H1
                  clear H1
                  have H' := Aside0.mk H
                  clear H
                  go_wp2
                  go_roundg kj7
                  case measure => have := HK1.out; have := HJ7.out; omega
                  case rel => exact ⟨(wrap64 (x3_1 + 1)), (x222001_1), (by first | rfl | (simp; done) | (simp [*]; done)), H', ⟨by have := HK1.out; have := HJ7.out; omega⟩, ⟨by (with_reducible repeat (first | refine blk_drewN ?_ _ | refine blk_drew ?_ | refine blk_alloc ?_ _)); exact BK221.out⟩, ⟨by repeat (first | (with_reducible first | exact HB.out | apply below_alloc | apply pw_below_drewN | apply below_drew1 | refine below_set ?_ GE221.out | refine below_set ?_ GE227.out) | exact HB.out)⟩⟩
          · rw [if_neg c5] at H
            exact absurd H (by simp)
        · rw [if_neg c4] at H
          have c4b0 : decide (x3_1 ≤ (a0.size : Int)) = false := decide_eq_false c4
          clear c4
          have H' := Aside0.mk H
          clear H
          go_wp2
          go_roundg k1
          case measure => have := HK1.out; omega
          case rel => exact ⟨(wrap64 (x3_1 + 1)), (x222001_1), (by first | rfl | (simp; done) | (simp [*]; done)), H', ⟨by have := HK1.out; omega⟩, ⟨by (with_reducible repeat (first | refine blk_drewN ?_ _ | refine blk_drew ?_ | refine blk_alloc ?_ _)); exact BK221.out⟩, ⟨by repeat (first | (with_reducible first | exact HB.out | apply below_alloc | apply pw_below_drewN | apply below_drew1 | refine below_set ?_ GE221.out) | exact HB.out)⟩⟩
      · rw [if_neg c3] at H
        have c3b0 : decide (x3_1 ≤ 3) = false := decide_eq_false c3
        clear c3
        simp only [Option.some.injEq, Prod.mk.injEq] at H
        obtain ⟨rfl, rfl⟩ := H
        have hcz45_0 : wr.cell? ⟨gb221, 0, none⟩ = some (.slice none 0 0) := (blk_cell BK221.out 0).trans rfl
        have hcz45_1 : wr.cell? ⟨gb221, 1, none⟩ = some (.int .i64 x222001_1) := (blk_cell BK221.out 1).trans rfl
        have hfz45_0 := blk_frozen BK221.out 0
        have hfz45_1 := blk_frozen BK221.out 1
        go_wp2
        refine bodyPost_ret (results_cell_row rfl _ _ gb221 40 #[.slice none 0 0, .int .i64 0] (0, 0) _ rfl (by (with_reducible repeat (first | refine blk_drewN ?_ _ | refine blk_drew ?_ | refine blk_alloc ?_ _)); refine blk_put (cs := #[.slice none 0 0, .int .i64 x222001_1]) ?_ 1 _ rfl; (with_reducible repeat (first | refine blk_drewN ?_ _ | refine blk_drew ?_ | refine blk_alloc ?_ _)); refine blk_put (cs := #[.slice none 0 0, .int .i64 x222001_1]) ?_ 0 _ rfl; (with_reducible repeat (first | refine blk_drewN ?_ _ | refine blk_drew ?_ | refine blk_alloc ?_ _)); exact BK221.out) Try.underlying40 rfl (by kernel_rfl)) rfl ?_
        exact ⟨_, by first | rfl | (simp [errW_none, errW_some] <;> rfl) | (simp [*, errW_none, errW_some] <;> rfl), by first | exact Kd.R_nil _ _ _ _ _ | exact Kd.N_nil _ _ _ _ _ | exact Kd.V_nil _ _ _ _ _ | exact Kd.Q_nil _ _ _ _ _ | exact Kd.S_nil _ _ _ _ _, by repeat (first | (with_reducible first | exact HB.out | apply below_alloc | apply pw_below_drewN | apply below_drew1 | refine below_set ?_ GE221.out) | exact HB.out)⟩

end Go.Proofs.Ytdbbhijicmeckaa.Q
