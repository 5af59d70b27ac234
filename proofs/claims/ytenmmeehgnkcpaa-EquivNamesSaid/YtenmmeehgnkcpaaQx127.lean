-- PRINTED by print.py (a twelfth state) out of the translation. Not trusted: Lean checks it.
import Derived.Test.YtenmmeehgnkcpaaHStep
import Derived.Test.YtenmmeehgnkcpaaQx0
import Derived.Test.YtenmmeehgnkcpaaQx152
import Derived.Test.YtenmmeehgnkcpaaQx153
namespace Go.Proofs.Ytenmmeehgnkcpaa.Q
open Go.RowKit Go.Proofs.YtenmmeehgnkcpaaW.PrintWords Go.Proofs.YtenmmeehgnkcpaaW.PrintLast Go.Proofs.YtenmmeehgnkcpaaW.PrintMore
attribute [local go_sem] max2_int min2_int max_two min_two max_three min_three max_four min_four   -- for this text's walks alone
set_option linter.unusedVariables false
set_option linter.unusedSimpArgs false
abbrev bQx1270 : Array Bool := #[false, false, false, false, false, false, false, false, false, false, false, false]
abbrev bQx1271 : Array Bool := #[true, false, false, false, false, false, false, false, false, false, false, false]
abbrev bQx1272 : Array Bool := #[true, true, false, false, false, false, false, false, false, false, false, false]
abbrev bQx1273 : Array Bool := #[true, true, true, false, false, false, false, false, false, false, false, false]
abbrev bQx1274 : Array Bool := #[true, true, true, true, false, false, false, false, false, false, false, false]
abbrev bQx1275 : Array Bool := #[true, true, true, true, true, false, false, false, false, false, false, false]
abbrev bQx1276 : Array Bool := #[true, true, true, true, true, true, false, false, false, false, false, false]
abbrev bQx1277 : Array Bool := #[true, true, true, true, true, true, true, false, false, false, false, false]
abbrev bQx1278 : Array Bool := #[true, true, true, true, true, true, true, true, false, false, false, false]
abbrev bQx1279 : Array Bool := #[true, true, true, true, true, true, true, true, true, false, false, false]
abbrev bQx12710 : Array Bool := #[true, true, true, true, true, true, true, true, true, true, false, false]
abbrev bQx12711 : Array Bool := #[true, true, true, true, true, true, true, true, true, true, true, false]
abbrev bQx12712 : Array Bool := #[true, true, true, true, true, true, true, true, true, true, true, true]

/-! ### demurralref20_Right: function 27 -/
def demurralref20_Right.l0 : Nat → List (S28) → List (S28) → Int → Int → Option (Bool)
  | 0, _, _, _, _ => none
  | k + 1, x0, x5, x6, x7 => if x7 < x6 then (if 0 ≤ x7 then (if x7 < (x5.length : Int) then ((demurralref20_Made.f k x7 ((rd_T28 x5 x7).f0) ((rd_T28 x5 x7).f1) ((rd_T28 x5 x7).f2) ((rd_T28 x5 x7).f3)).bind fun t199 => (if t199 = true then (if x7 ≤ (x0.length : Int) then ((demurralref20_At.f k (x0.take (x7 : Int).toNat) ((rd_T28 x5 x7).f0) ((rd_T28 x5 x7).f1) ((rd_T28 x5 x7).f2) ((rd_T28 x5 x7).f3)).bind fun t204 => (if t204 ≥ 0 then (some false) else (demurralref20_Right.l0 k x0 x5 x6 (wrap64 (x7 + 1))))) else (none)) else (some false))) else (none)) else (none)) else (some (decide ((x0.length : Int) ≤ 400)))
def demurralref20_Right.f (k : Nat) (l0 : List (S28)) : Option (Bool) := demurralref20_Right.l0 k l0 l0 (l0.length : Int) 0
theorem demurralref20_Right.mono_l : ∀ k, (∀ y0 y1 y2 y3, LeO (demurralref20_Right.l0 k y0 y1 y2 y3) (demurralref20_Right.l0 (k + 1) y0 y1 y2 y3))
  | 0 => fun _ _ _ _ r h => by simp [demurralref20_Right.l0] at h
  | k + 1 => by
    have ih0 := demurralref20_Right.mono_l k
    · intro y0 y1 y2 y3
      unfold demurralref20_Right.l0
      repeat' first
      | (with_reducible exact ih0 _ _ _ _)
      | (with_reducible exact demurralref20_At.mono _ _ _ _ _ _)
      | (with_reducible exact demurralref20_Made.mono _ _ _ _ _ _)
      | (with_reducible exact LeO.refl _)
      | (with_reducible exact LeO.none _)
      | (with_reducible refine LeO.ite ?_ ?_)
      | (with_reducible refine LeO.bind ?_ (fun _ => ?_))
      | exact ih0 _ _ _ _
      | exact demurralref20_At.mono _ _ _ _ _ _
      | exact demurralref20_Made.mono _ _ _ _ _ _
      | exact LeO.none _
      | refine LeO.ite ?_ ?_
      | refine LeO.bind ?_ (fun _ => ?_)
theorem demurralref20_Right.mono : ∀ a0 k, LeO (demurralref20_Right.f k a0) (demurralref20_Right.f (k + 1) a0) := by
  intro a0 k
  have ih0 := demurralref20_Right.mono_l k
  unfold demurralref20_Right.f
  repeat' first
      | (with_reducible exact ih0 _ _ _ _)
      | (with_reducible exact demurralref20_At.mono _ _ _ _ _ _)
      | (with_reducible exact demurralref20_Made.mono _ _ _ _ _ _)
      | (with_reducible exact LeO.refl _)
      | (with_reducible exact LeO.none _)
      | (with_reducible refine LeO.ite ?_ ?_)
      | (with_reducible refine LeO.bind ?_ (fun _ => ?_))
      | exact ih0 _ _ _ _
      | exact demurralref20_At.mono _ _ _ _ _ _
      | exact demurralref20_Made.mono _ _ _ _ _ _
      | exact LeO.none _
      | refine LeO.ite ?_ ?_
      | refine LeO.bind ?_ (fun _ => ?_)
def demurralref20_Right.T4 : Bool × List (List Nat × List Nat) := (true, [([], []), ([], []), ([0, 1], [0, 1]), ([2], [2]), ([3, 2], [3]), ([4], [4]), ([4], [4]), ([5, 6, 4], [4, 5, 6]), ([4], [4]), ([7, 8, 4, 4], [4, 7, 8]), ([9, 4], [4, 9]), ([4, 10], [4, 10])])
def demurralref20_Right.B4 : List Nat := [0, 0, 3, 7, 15, 31, 31, 127, 31, 511, 1023, 2047]
theorem demurralref20_Right.tab4 : rtab .any (opsOf Try.f27 4) = demurralref20_Right.T4 := by kernel_rfl
theorem demurralref20_Right.bits4 : waitsOk demurralref20_Right.T4.2 demurralref20_Right.B4 = true := by kernel_rfl
set_option maxHeartbeats 8000000 in
set_option maxRecDepth 100000 in
theorem demurralref20_Right.calls (k : Nat) (A0 : Option Addr) (c0 : Nat) (l0 : List (S28)) (r : Bool) (w : World) (hr0 : Kd.C k28 w A0 l0.length l0) (hc0 : l0.length ≤ c0) (h : demurralref20_Right.f k l0 = some r) :
    Calls Try.prog 27 #[.slice A0 l0.length c0] w fun e w' => e = .returned (.bool r) ∧ Below w.heap.size w w' := by
  have hu28 := Try.underlying28
  have HR0 := Aside0.mk hr0
  have HC0 := Aside0.mk hc0
  clear hr0 hc0
  have HB := Aside0.mk (Below.refl w.heap.size w)
  have H : (demurralref20_Right.l0 k l0 l0 (l0.length : Int) 0) = some r := h
  clear h
  have H' := Aside0.mk H
  clear H
  go_enter Try.func27, Try.ntmps27
  go_wp2
  go_loopg [7] k (fun kq v7 w' => ∃ (x7_1 : Int), v7 = .int .i64 x7_1 ∧ Aside0 (demurralref20_Right.l0 kq l0 l0 (l0.length : Int) x7_1 = some r) ∧ Aside0 (kq ≤ k) ∧ Aside0 (Below w.heap.size w w'))
  case atStart => exact ⟨(0), (by first | rfl | (simp; done) | (simp [*]; done)), H', ⟨Nat.le_refl _⟩, ⟨by repeat (first | (with_reducible first | exact HB.out | apply below_alloc | apply pw_below_drewN | apply below_drew1) | exact HB.out)⟩⟩
  case round =>
    clear H'
    obtain ⟨x7_1, rfl, HA, HK1, HB⟩ := hrel
    cases gk with
    | zero => exact absurd HA.out (by simp [demurralref20_Right.l0])
    | succ k1 =>
      have H := HA.out
      clear HA
      simp only [demurralref20_Right.l0] at H
      by_cases c2 : x7_1 < (l0.length : Int)
      · rw [if_pos c2] at H
        have c2b0 : decide (x7_1 < (l0.length : Int)) = true := decide_eq_true c2
        clear c2
        by_cases c3 : 0 ≤ x7_1
        · rw [if_pos c3] at H
          have c3b0 : decide (0 ≤ x7_1) = true := decide_eq_true c3
          clear c3
          by_cases c4 : x7_1 < (l0.length : Int)
          · rw [if_pos c4] at H
            have c4b0 : decide (x7_1 < (l0.length : Int)) = true := decide_eq_true c4
            clear c4
            replace H := Option.bind_eq_some_iff.mp H
            obtain ⟨t199, A50, H⟩ := H
            replace H : (if t199 = true then (if x7_1 ≤ (l0.length : Int) then ((demurralref20_At.f k1 (l0.take (x7_1 : Int).toNat) ((rd_T28 l0 x7_1).f0) ((rd_T28 l0 x7_1).f1) ((rd_T28 l0 x7_1).f2) ((rd_T28 l0 x7_1).f3)).bind fun t204 => (if t204 ≥ 0 then (some false) else (demurralref20_Right.l0 k1 l0 l0 (l0.length : Int) (wrap64 (x7_1 + 1))))) else (none)) else (some false)) = some r := H
            have A5 := Aside0.mk A50
            clear A50
            by_cases c6 : t199 = true
            · subst c6
              have H1 : (if x7_1 ≤ (l0.length : Int) then ((demurralref20_At.f k1 (l0.take (x7_1 : Int).toNat) ((rd_T28 l0 x7_1).f0) ((rd_T28 l0 x7_1).f1) ((rd_T28 l0 x7_1).f2) ((rd_T28 l0 x7_1).f3)).bind fun t204 => (if t204 ≥ 0 then (some false) else (demurralref20_Right.l0 k1 l0 l0 (l0.length : Int) (wrap64 (x7_1 + 1))))) else (none)) = some r := by rw [if_pos rfl] at H; exact H
              clear H
              have H := H1
              clear H1
              have c7b0 := eq_true (of_decide_eq_true (by first | (with_reducible assumption) | assumption) : 0 ≤ x7_1)
              by_cases c8 : x7_1 ≤ (l0.length : Int)
              · rw [if_pos c8] at H
                have c8b0 := eq_true c8
                have c8b1 : decide (x7_1 ≤ (l0.length : Int)) = true := decide_eq_true c8
                clear c8
                obtain ⟨y200, hy200⟩ : ∃ y_ : List (S28), y_ = (l0.take (x7_1 : Int).toNat) := ⟨_, rfl⟩
                replace H : ((demurralref20_At.f k1 y200 ((rd_T28 l0 x7_1).f0) ((rd_T28 l0 x7_1).f1) ((rd_T28 l0 x7_1).f2) ((rd_T28 l0 x7_1).f3)).bind fun t204 => (if t204 ≥ 0 then (some false) else (demurralref20_Right.l0 k1 l0 l0 (l0.length : Int) (wrap64 (x7_1 + 1))))) = some r := by first | (rw [hy200]; with_reducible exact H) | (have H2_ := (Option.bind_some _ _).symm.trans H; rw [hy200]; with_reducible exact H2_) | (have H2_ := (Option.bind_some _ _).symm.trans H; with_reducible exact H2_) | with_reducible exact H | (rw [hy200]; exact H) | exact H
                have Ny200 := Aside0.mk hy200
                clear hy200
                replace H := Option.bind_eq_some_iff.mp H
                obtain ⟨t204, A90, H⟩ := H
                replace H : (if t204 ≥ 0 then (some false) else (demurralref20_Right.l0 k1 l0 l0 (l0.length : Int) (wrap64 (x7_1 + 1)))) = some r := H
                have A9 := Aside0.mk A90
                clear A90
                by_cases c10 : t204 ≥ 0
                · rw [if_pos c10] at H
                  have c10b0 : decide (0 ≤ t204) = true := decide_eq_true c10
                  clear c10
                  obtain rfl := Option.some.inj H
                  have p197 : 0 ≤ (x7_1 : Int) := of_decide_eq_true (by first | (with_reducible assumption) | assumption)
                  have q197 : x7_1 < (l0.length : Int) := of_decide_eq_true (by first | (with_reducible assumption) | assumption)
                  obtain ⟨ad197, e197, hx197_0, hx197_1, hx197_2, hx197_3⟩ := at_T28 HR0.out x7_1 p197 q197
                  cases e197
                  replace hx197_0 := (HB.out.cell (World.block_lt_of_cell? w _ hx197_0)).trans hx197_0
                  replace hx197_1 := (HB.out.cell (World.block_lt_of_cell? w _ hx197_1)).trans hx197_1
                  replace hx197_2 := (HB.out.cell (World.block_lt_of_cell? w _ hx197_2)).trans hx197_2
                  replace hx197_3 := (HB.out.cell (World.block_lt_of_cell? w _ hx197_3)).trans hx197_3
                  replace p197 := eq_true p197
                  replace q197 := eq_true q197
                  try go_wp2_with (first | ((with_reducible refine gate_dst (N := 4) rfl ?_); refine box_event ?hg (N := 4) ?hd (cs := #[.int .i64 0, .int .u64 0, .int .i64 0, .int .i64 0]) (t := 28) ?hr ?_; (case hd => rfl); (case hg => rfl); (case hr => first | (go_simp; done) | (go_simp; rfl)); intro gb198 hg w11 hbox hb; have n0_ := Aside0.mk (below_step (wb_ HB.out) hb); have n1_ := Aside0.mk (hbox); have n2_ := Aside0.mk ((by rw [hg]; exact (below_size (wb_ HB.out)) : w.heap.size ≤ gb198)); have n3_ := Aside0.mk ((by rw [hg]; exact (below_size (wb_ HB.out)) : w.heap.size ≤ gb198)); clear HB; have HB := n0_; have BK198 := n1_; have GW198 := n2_; have GE198 := n3_; clear n0_ n1_ n2_ n3_; clear hb hbox hg; have hcz12_0 : w11.cell? ⟨gb198, 0, none⟩ = some (.int .i64 0) := (blk_cell BK198.out 0).trans rfl; have hcz12_1 : w11.cell? ⟨gb198, 1, none⟩ = some (.int .u64 0) := (blk_cell BK198.out 1).trans rfl; have hcz12_2 : w11.cell? ⟨gb198, 2, none⟩ = some (.int .i64 0) := (blk_cell BK198.out 2).trans rfl; have hcz12_3 : w11.cell? ⟨gb198, 3, none⟩ = some (.int .i64 0) := (blk_cell BK198.out 3).trans rfl; have hfz12_0 := blk_frozen BK198.out 0; have hfz12_1 := blk_frozen BK198.out 1; have hfz12_2 := blk_frozen BK198.out 2; have hfz12_3 := blk_frozen BK198.out 3))
                  have n0_ : Aside0 (((((w11.setCell ⟨gb198, 0, none⟩ (.int .i64 ((rd_T28 l0 x7_1).f0))).setCell ⟨gb198, 1, none⟩ (.int .u64 ((rd_T28 l0 x7_1).f1))).setCell ⟨gb198, 2, none⟩ (.int .i64 ((rd_T28 l0 x7_1).f2))).setCell ⟨gb198, 3, none⟩ (.int .i64 ((rd_T28 l0 x7_1).f3))).heap[gb198]? = some (.cells #[.int .i64 ((rd_T28 l0 x7_1).f0), .int .u64 ((rd_T28 l0 x7_1).f1), .int .i64 ((rd_T28 l0 x7_1).f2), .int .i64 ((rd_T28 l0 x7_1).f3)] 28 (0, 0))) := ⟨by (with_reducible repeat (first | refine blk_drewN ?_ _ | refine blk_drew ?_ | refine blk_alloc ?_ _)); refine blk_put (cs := #[.int .i64 ((rd_T28 l0 x7_1).f0), .int .u64 ((rd_T28 l0 x7_1).f1), .int .i64 ((rd_T28 l0 x7_1).f2), .int .i64 0]) ?_ 3 _ rfl; (with_reducible repeat (first | refine blk_drewN ?_ _ | refine blk_drew ?_ | refine blk_alloc ?_ _)); refine blk_put (cs := #[.int .i64 ((rd_T28 l0 x7_1).f0), .int .u64 ((rd_T28 l0 x7_1).f1), .int .i64 0, .int .i64 0]) ?_ 2 _ rfl; (with_reducible repeat (first | refine blk_drewN ?_ _ | refine blk_drew ?_ | refine blk_alloc ?_ _)); refine blk_put (cs := #[.int .i64 ((rd_T28 l0 x7_1).f0), .int .u64 0, .int .i64 0, .int .i64 0]) ?_ 1 _ rfl; (with_reducible repeat (first | refine blk_drewN ?_ _ | refine blk_drew ?_ | refine blk_alloc ?_ _)); refine blk_put (cs := #[.int .i64 0, .int .u64 0, .int .i64 0, .int .i64 0]) ?_ 0 _ rfl; (with_reducible repeat (first | refine blk_drewN ?_ _ | refine blk_drew ?_ | refine blk_alloc ?_ _)); exact BK198.out⟩
                  have n1_ : Aside0 (Below w.heap.size w ((((w11.setCell ⟨gb198, 0, none⟩ (.int .i64 ((rd_T28 l0 x7_1).f0))).setCell ⟨gb198, 1, none⟩ (.int .u64 ((rd_T28 l0 x7_1).f1))).setCell ⟨gb198, 2, none⟩ (.int .i64 ((rd_T28 l0 x7_1).f2))).setCell ⟨gb198, 3, none⟩ (.int .i64 ((rd_T28 l0 x7_1).f3)))) := ⟨by repeat (first | (with_reducible first | exact HB.out | apply below_alloc | apply pw_below_drewN | apply below_drew1 | refine below_set ?_ GE198.out) | exact HB.out)⟩
                  (try clear BK198)
                  (try clear HB)
                  generalize ((((w11.setCell ⟨gb198, 0, none⟩ (.int .i64 ((rd_T28 l0 x7_1).f0))).setCell ⟨gb198, 1, none⟩ (.int .u64 ((rd_T28 l0 x7_1).f1))).setCell ⟨gb198, 2, none⟩ (.int .i64 ((rd_T28 l0 x7_1).f2))).setCell ⟨gb198, 3, none⟩ (.int .i64 ((rd_T28 l0 x7_1).f3))) = w13 at n0_ n1_ ⊢
                  have BK198 := n0_
                  have HB := n1_
                  clear n0_ n1_
                  have n0_ := Aside0.mk (blk_drew BK198.out)
                  have n1_ := Aside0.mk (below_drew1 HB.out)
                  clear BK198
                  clear HB
                  have BK198 := n0_
                  have HB := n1_
                  clear n0_ n1_
                  refine start_ (n := 12) (S := fun w' => w'.cell? ⟨gb198, 0, none⟩ = some (.int .i64 ((rd_T28 l0 x7_1).f0)) ∧ w'.cell? ⟨gb198, 1, none⟩ = some (.int .u64 ((rd_T28 l0 x7_1).f1)) ∧ w'.cell? ⟨gb198, 2, none⟩ = some (.int .i64 ((rd_T28 l0 x7_1).f2)) ∧ w'.cell? ⟨gb198, 3, none⟩ = some (.int .i64 ((rd_T28 l0 x7_1).f3))) (ds := []) bQx1270 (by kernel_rfl) rfl rfl ⟨(blk_cell BK198.out 0).trans rfl, (blk_cell BK198.out 1).trans rfl, (blk_cell BK198.out 2).trans rfl, (blk_cell BK198.out 3).trans rfl⟩ (fun hHeld => ?_); refine with_tabW demurralref20_Right.tab4 demurralref20_Right.bits4 (fun HT_ HW_ => ?_)
                  generalize w13.drew = w14 at BK198 HB hHeld ⊢
                  refine pure_ (i := 0) (N := some 12) (v := ?_) (a' := ?_) bQx1271 rfl rfl (any_of HT_.out (by kernel_rfl)) (fun _ _ _ h => h) (Or.inl ⟨by rfl, ?_⟩) ?_ ?_
                  rotate_left
                  · intro w'
                    go_simp
                    with_reducible rfl
                  rotate_left
                  · simp only [Act.put, List.setIfInBounds_toArray, List.set_cons_zero, List.set_cons_succ, i64_w, i32_w]
                    rfl
                  refine take_ (i := 1) (N := some 13) (v := ?_) (a' := ?_) bQx1272 rfl rfl (take_ofW HT_.out HW_.out (by kernel_rfl)) (fun _ _ _ h => h) (Or.inl ⟨by rfl, ?_⟩) hHeld ?_ ?_
                  rotate_left
                  · rintro w' ⟨s0, s1, s2, s3⟩
                    go_simp
                    with_reducible rfl
                  rotate_left
                  · simp only [Act.put, List.setIfInBounds_toArray, List.set_cons_zero, List.set_cons_succ, i64_w, i32_w]
                    rfl
                  refine one_ (i := 2) (N := some 14) bQx1273 rfl rfl (one_of HT_.out (by kernel_rfl)) (by decide) (fun K hK => ?_)
                  refine goes_ Try.func52 (by kernel_rfl) rfl #[.int .i64 x7_1, .agg #[.int .i64 ((rd_T28 l0 x7_1).f0), .int .u64 ((rd_T28 l0 x7_1).f1), .int .i64 ((rd_T28 l0 x7_1).f2), .int .i64 ((rd_T28 l0 x7_1).f3)]] (by rfl) rfl rfl (by (try simp only [List.map_toArray, List.map_cons, List.map_nil]); first | done | rfl | (simp only [List.length_drop, List.length_take]; rfl) | (simp [Act.eval]; omega)) ?_
                  with_reducible refine (demurralref20_Made.calls k1 x7_1 ((rd_T28 l0 x7_1).f0) ((rd_T28 l0 x7_1).f1) ((rd_T28 l0 x7_1).f2) ((rd_T28 l0 x7_1).f3) true _ A5.out).mono ?_
                  rintro e w15 ⟨rfl, hb⟩
                  refine ⟨_, rfl, ?_⟩
                  have n0_ := Aside0.mk (blk_below (g := gb198) (o := .cells #[.int .i64 ((rd_T28 l0 x7_1).f0), .int .u64 ((rd_T28 l0 x7_1).f1), .int .i64 ((rd_T28 l0 x7_1).f2), .int .i64 ((rd_T28 l0 x7_1).f3)] 28 (0, 0)) (vb_ BK198.out) hb)
                  have n1_ := Aside0.mk (below_step (by repeat (first | (with_reducible first | exact HB.out | apply below_alloc | apply pw_below_drewN | apply below_drew1 | refine below_set ?_ GE198.out) | exact HB.out)) hb)
                  clear BK198
                  clear HB
                  have BK198 := n0_
                  have HB := n1_
                  clear n0_ n1_
                  (try clear hb)
                  (try clear hb2)
                  (try clear hk)
                  (try clear hi)
                  have q16 : (x7_1 : Int) ≤ ((l0.length : Int) : Int) := of_decide_eq_true (by first | (with_reducible assumption) | assumption)
                  obtain ⟨i016, hi016, _, hsz16, _⟩ := info_parts info28
                  have hroom16 : l0.length ≤ c0 := HC0.out
                  have hC16 : Kd.C k28 _ (some ad197) l0.length l0 := HR0.out
                  have hcut16 := cut_to (P := Try.prog) 23 28 .i64 Try.underlying23 hi016 (some ad197) l0.length c0 x7_1 (of_decide_eq_true (by first | (with_reducible assumption) | assumption)) q16 hroom16
                  have hr16 := Kd.C_take (m := (x7_1 : Int).toNat) hC16 (by omega)
                  have hy16 : y200.length = (x7_1 : Int).toNat := (by rw [Ny200.out, List.length_take]; omega)
                  rw [← Ny200.out] at hr16
                  rw [← hy16] at hcut16
                  have HR203 := Aside0.mk hr16
                  have HC203 := Aside0.mk (show y200.length ≤ c0 from by omega)
                  clear hr16 hC16 hroom16 hi016 hsz16
                  have KY16 := Aside0.mk hy16
                  clear hy16
                  replace q16 := eq_true q16
                  refine hK.out _ _ ⟨(blk_cell BK198.out 0).trans rfl, (blk_cell BK198.out 1).trans rfl, (blk_cell BK198.out 2).trans rfl, (blk_cell BK198.out 3).trans rfl⟩ (fun hHeld => ?_)
                  clear hK K
                  refine norm_ (a' := ?_) ?_ ?_
                  rotate_left
                  · show Act.put _ (some 14) _ = _
                    simp only [Act.put, List.setIfInBounds_toArray, List.set_cons_zero, List.set_cons_succ, i64_w, i32_w]
                    rfl
                  refine pure_ (i := 3) (N := some 15) (v := ?_) (a' := ?_) bQx1274 rfl rfl (any_of HT_.out (by kernel_rfl)) (fun _ _ _ h => h) (Or.inl ⟨by rfl, ?_⟩) ?_ ?_
                  rotate_left
                  · intro w'
                    go_simp
                    with_reducible rfl
                  rotate_left
                  · simp only [Act.put, List.setIfInBounds_toArray, List.set_cons_zero, List.set_cons_succ, i64_w, i32_w]
                    rfl
                  refine pure_ (i := 4) (N := some 16) (v := ?_) (a' := ?_) bQx1275 rfl rfl (any_of HT_.out (by kernel_rfl)) (fun _ _ _ h => h) (Or.inl ⟨by rfl, ?_⟩) ?_ ?_
                  rotate_left
                  · intro w'
                    go_simp
                    with_reducible rfl
                  rotate_left
                  · simp only [Act.put, List.setIfInBounds_toArray, List.set_cons_zero, List.set_cons_succ, i64_w, i32_w]
                    rfl
                  refine pure_ (i := 5) (N := some 17) (v := ?_) (a' := ?_) bQx1276 rfl rfl (any_of HT_.out (by kernel_rfl)) (fun _ _ _ h => h) (Or.inl ⟨by rfl, ?_⟩) ?_ ?_
                  rotate_left
                  · intro w'
                    go_simp
                    with_reducible rfl
                  rotate_left
                  · simp only [Act.put, List.setIfInBounds_toArray, List.set_cons_zero, List.set_cons_succ, i64_w, i32_w]
                    rfl
                  refine pure_ (i := 6) (N := some 18) (v := ?_) (a' := ?_) bQx1277 rfl rfl (any_of HT_.out (by kernel_rfl)) (fun _ _ _ h => h) (Or.inl ⟨by rfl, ?_⟩) ?_ ?_
                  rotate_left
                  · intro w'
                    go_simp
                    with_reducible rfl
                  rotate_left
                  · simp only [Act.put, List.setIfInBounds_toArray, List.set_cons_zero, List.set_cons_succ, i64_w, i32_w]
                    rfl
                  refine pure_ (i := 7) (N := some 19) (v := ?_) (a' := ?_) bQx1278 rfl rfl (any_of HT_.out (by kernel_rfl)) (fun _ _ _ h => h) (Or.inl ⟨by rfl, ?_⟩) ?_ ?_
                  rotate_left
                  · intro w'
                    go_simp
                    with_reducible rfl
                  rotate_left
                  · simp only [Act.put, List.setIfInBounds_toArray, List.set_cons_zero, List.set_cons_succ, i64_w, i32_w]
                    rfl
                  refine take_ (i := 8) (N := some 20) (v := ?_) (a' := ?_) bQx1279 rfl rfl (take_ofW HT_.out HW_.out (by kernel_rfl)) (fun _ _ _ h => h) (Or.inl ⟨by rfl, ?_⟩) hHeld ?_ ?_
                  rotate_left
                  · rintro w' ⟨s0, s1, s2, s3⟩
                    go_simp
                    with_reducible rfl
                  rotate_left
                  · simp only [Act.put, List.setIfInBounds_toArray, List.set_cons_zero, List.set_cons_succ, i64_w, i32_w]
                    rfl
                  refine one_ (i := 9) (N := some 21) bQx12710 rfl rfl (one_of HT_.out (by kernel_rfl)) (by decide) (fun K hK => ?_)
                  refine goes_ Try.func53 (by kernel_rfl) rfl #[.slice (some ad197) y200.length c0, .agg #[.int .i64 ((rd_T28 l0 x7_1).f0), .int .u64 ((rd_T28 l0 x7_1).f1), .int .i64 ((rd_T28 l0 x7_1).f2), .int .i64 ((rd_T28 l0 x7_1).f3)]] (by rfl) rfl rfl (by (try simp only [List.map_toArray, List.map_cons, List.map_nil]); first | done | rfl | (simp only [List.length_drop, List.length_take]; rfl) | (simp [Act.eval]; omega)) ?_
                  with_reducible refine (demurralref20_At.calls k1 _ _ y200 ((rd_T28 l0 x7_1).f0) ((rd_T28 l0 x7_1).f1) ((rd_T28 l0 x7_1).f2) ((rd_T28 l0 x7_1).f3) t204 _ ?side1 ?side2 A9.out).mono ?_
                  (case side1 => repeat (first | exact (Kd.C_below HR203.out HB.out) | (with_reducible refine Kd.C_alloc ?_ _) | (with_reducible refine Kd.C_drewN ?_ _) | (with_reducible refine Kd.C_drew ?_)))
                  (case side2 => exact HC203.out)
                  rintro e w17 ⟨rfl, hb⟩
                  refine ⟨_, rfl, ?_⟩
                  have n0_ := Aside0.mk (blk_below (g := gb198) (o := .cells #[.int .i64 ((rd_T28 l0 x7_1).f0), .int .u64 ((rd_T28 l0 x7_1).f1), .int .i64 ((rd_T28 l0 x7_1).f2), .int .i64 ((rd_T28 l0 x7_1).f3)] 28 (0, 0)) (vb_ BK198.out) hb)
                  have n1_ := Aside0.mk (below_step (by repeat (first | (with_reducible first | exact HB.out | apply below_alloc | apply pw_below_drewN | apply below_drew1 | refine below_set ?_ GE198.out) | exact HB.out)) hb)
                  clear BK198
                  clear HB
                  have BK198 := n0_
                  have HB := n1_
                  clear n0_ n1_
                  (try clear hb)
                  (try clear hb2)
                  (try clear hk)
                  (try clear hi)
                  refine hK.out _ _ ⟨(blk_cell BK198.out 0).trans rfl, (blk_cell BK198.out 1).trans rfl, (blk_cell BK198.out 2).trans rfl, (blk_cell BK198.out 3).trans rfl⟩ (fun hHeld => ?_)
                  clear hK K
                  refine norm_ (a' := ?_) ?_ ?_
                  rotate_left
                  · show Act.put _ (some 21) _ = _
                    simp only [Act.put, List.setIfInBounds_toArray, List.set_cons_zero, List.set_cons_succ, i64_w, i32_w]
                    rfl
                  refine pure_ (i := 10) (N := some 22) (v := ?_) (a' := ?_) bQx12711 rfl rfl (any_of HT_.out (by kernel_rfl)) (fun _ _ _ h => h) (Or.inl ⟨by rfl, ?_⟩) ?_ ?_
                  rotate_left
                  · intro w'
                    go_simp
                    with_reducible rfl
                  rotate_left
                  · simp only [Act.put, List.setIfInBounds_toArray, List.set_cons_zero, List.set_cons_succ, i64_w, i32_w]
                    rfl
                  refine pure_ (i := 11) (N := some 23) (v := ?_) (a' := ?_) bQx12712 rfl rfl (any_of HT_.out (by kernel_rfl)) (fun _ _ _ h => h) (Or.inl ⟨by rfl, ?_⟩) ?_ ?_
                  rotate_left
                  · intro w'
                    go_simp
                    with_reducible rfl
                  rotate_left
                  · simp only [Act.put, List.setIfInBounds_toArray, List.set_cons_zero, List.set_cons_succ, i64_w, i32_w]
                    rfl
                  refine done_ (done_of HT_.out (by kernel_rfl)) ?_
                  try go_wp2
                  go_ret
                  exact ⟨by first | rfl | (simp [errW_none, errW_some] <;> rfl) | (simp [*, errW_none, errW_some] <;> rfl), by repeat (first | (with_reducible first | exact HB.out | apply below_alloc | apply pw_below_drewN | apply below_drew1 | refine below_set ?_ GE198.out) | exact HB.out)⟩
                · rw [if_neg c10] at H
                  have c10b0 : decide (0 ≤ t204) = false := decide_eq_false c10
                  clear c10
                  have H' := Aside0.mk H
                  clear H
                  have p197 : 0 ≤ (x7_1 : Int) := of_decide_eq_true (by first | (with_reducible assumption) | assumption)
                  have q197 : x7_1 < (l0.length : Int) := of_decide_eq_true (by first | (with_reducible assumption) | assumption)
                  obtain ⟨ad197, e197, hx197_0, hx197_1, hx197_2, hx197_3⟩ := at_T28 HR0.out x7_1 p197 q197
                  cases e197
                  replace hx197_0 := (HB.out.cell (World.block_lt_of_cell? w _ hx197_0)).trans hx197_0
                  replace hx197_1 := (HB.out.cell (World.block_lt_of_cell? w _ hx197_1)).trans hx197_1
                  replace hx197_2 := (HB.out.cell (World.block_lt_of_cell? w _ hx197_2)).trans hx197_2
                  replace hx197_3 := (HB.out.cell (World.block_lt_of_cell? w _ hx197_3)).trans hx197_3
                  replace p197 := eq_true p197
                  replace q197 := eq_true q197
                  try go_wp2_with (first | ((with_reducible refine gate_dst (N := 4) rfl ?_); refine box_event ?hg (N := 4) ?hd (cs := #[.int .i64 0, .int .u64 0, .int .i64 0, .int .i64 0]) (t := 28) ?hr ?_; (case hd => rfl); (case hg => rfl); (case hr => first | (go_simp; done) | (go_simp; rfl)); intro gb198 hg w18 hbox hb; have n0_ := Aside0.mk (below_step (wb_ HB.out) hb); have n1_ := Aside0.mk (hbox); have n2_ := Aside0.mk ((by rw [hg]; exact (below_size (wb_ HB.out)) : w.heap.size ≤ gb198)); have n3_ := Aside0.mk ((by rw [hg]; exact (below_size (wb_ HB.out)) : w.heap.size ≤ gb198)); clear HB; have HB := n0_; have BK198 := n1_; have GW198 := n2_; have GE198 := n3_; clear n0_ n1_ n2_ n3_; clear hb hbox hg; have hcz19_0 : w18.cell? ⟨gb198, 0, none⟩ = some (.int .i64 0) := (blk_cell BK198.out 0).trans rfl; have hcz19_1 : w18.cell? ⟨gb198, 1, none⟩ = some (.int .u64 0) := (blk_cell BK198.out 1).trans rfl; have hcz19_2 : w18.cell? ⟨gb198, 2, none⟩ = some (.int .i64 0) := (blk_cell BK198.out 2).trans rfl; have hcz19_3 : w18.cell? ⟨gb198, 3, none⟩ = some (.int .i64 0) := (blk_cell BK198.out 3).trans rfl; have hfz19_0 := blk_frozen BK198.out 0; have hfz19_1 := blk_frozen BK198.out 1; have hfz19_2 := blk_frozen BK198.out 2; have hfz19_3 := blk_frozen BK198.out 3))
                  have n0_ : Aside0 (((((w18.setCell ⟨gb198, 0, none⟩ (.int .i64 ((rd_T28 l0 x7_1).f0))).setCell ⟨gb198, 1, none⟩ (.int .u64 ((rd_T28 l0 x7_1).f1))).setCell ⟨gb198, 2, none⟩ (.int .i64 ((rd_T28 l0 x7_1).f2))).setCell ⟨gb198, 3, none⟩ (.int .i64 ((rd_T28 l0 x7_1).f3))).heap[gb198]? = some (.cells #[.int .i64 ((rd_T28 l0 x7_1).f0), .int .u64 ((rd_T28 l0 x7_1).f1), .int .i64 ((rd_T28 l0 x7_1).f2), .int .i64 ((rd_T28 l0 x7_1).f3)] 28 (0, 0))) := ⟨by (with_reducible repeat (first | refine blk_drewN ?_ _ | refine blk_drew ?_ | refine blk_alloc ?_ _)); refine blk_put (cs := #[.int .i64 ((rd_T28 l0 x7_1).f0), .int .u64 ((rd_T28 l0 x7_1).f1), .int .i64 ((rd_T28 l0 x7_1).f2), .int .i64 0]) ?_ 3 _ rfl; (with_reducible repeat (first | refine blk_drewN ?_ _ | refine blk_drew ?_ | refine blk_alloc ?_ _)); refine blk_put (cs := #[.int .i64 ((rd_T28 l0 x7_1).f0), .int .u64 ((rd_T28 l0 x7_1).f1), .int .i64 0, .int .i64 0]) ?_ 2 _ rfl; (with_reducible repeat (first | refine blk_drewN ?_ _ | refine blk_drew ?_ | refine blk_alloc ?_ _)); refine blk_put (cs := #[.int .i64 ((rd_T28 l0 x7_1).f0), .int .u64 0, .int .i64 0, .int .i64 0]) ?_ 1 _ rfl; (with_reducible repeat (first | refine blk_drewN ?_ _ | refine blk_drew ?_ | refine blk_alloc ?_ _)); refine blk_put (cs := #[.int .i64 0, .int .u64 0, .int .i64 0, .int .i64 0]) ?_ 0 _ rfl; (with_reducible repeat (first | refine blk_drewN ?_ _ | refine blk_drew ?_ | refine blk_alloc ?_ _)); exact BK198.out⟩
                  have n1_ : Aside0 (Below w.heap.size w ((((w18.setCell ⟨gb198, 0, none⟩ (.int .i64 ((rd_T28 l0 x7_1).f0))).setCell ⟨gb198, 1, none⟩ (.int .u64 ((rd_T28 l0 x7_1).f1))).setCell ⟨gb198, 2, none⟩ (.int .i64 ((rd_T28 l0 x7_1).f2))).setCell ⟨gb198, 3, none⟩ (.int .i64 ((rd_T28 l0 x7_1).f3)))) := ⟨by repeat (first | (with_reducible first | exact HB.out | apply below_alloc | apply pw_below_drewN | apply below_drew1 | refine below_set ?_ GE198.out) | exact HB.out)⟩
                  (try clear BK198)
                  (try clear HB)
                  generalize ((((w18.setCell ⟨gb198, 0, none⟩ (.int .i64 ((rd_T28 l0 x7_1).f0))).setCell ⟨gb198, 1, none⟩ (.int .u64 ((rd_T28 l0 x7_1).f1))).setCell ⟨gb198, 2, none⟩ (.int .i64 ((rd_T28 l0 x7_1).f2))).setCell ⟨gb198, 3, none⟩ (.int .i64 ((rd_T28 l0 x7_1).f3))) = w20 at n0_ n1_ ⊢
                  have BK198 := n0_
                  have HB := n1_
                  clear n0_ n1_
                  have n0_ := Aside0.mk (blk_drew BK198.out)
                  have n1_ := Aside0.mk (below_drew1 HB.out)
                  clear BK198
                  clear HB
                  have BK198 := n0_
                  have HB := n1_
                  clear n0_ n1_
                  refine start_ (n := 12) (S := fun w' => w'.cell? ⟨gb198, 0, none⟩ = some (.int .i64 ((rd_T28 l0 x7_1).f0)) ∧ w'.cell? ⟨gb198, 1, none⟩ = some (.int .u64 ((rd_T28 l0 x7_1).f1)) ∧ w'.cell? ⟨gb198, 2, none⟩ = some (.int .i64 ((rd_T28 l0 x7_1).f2)) ∧ w'.cell? ⟨gb198, 3, none⟩ = some (.int .i64 ((rd_T28 l0 x7_1).f3))) (ds := []) bQx1270 (by kernel_rfl) rfl rfl ⟨(blk_cell BK198.out 0).trans rfl, (blk_cell BK198.out 1).trans rfl, (blk_cell BK198.out 2).trans rfl, (blk_cell BK198.out 3).trans rfl⟩ (fun hHeld => ?_); refine with_tabW demurralref20_Right.tab4 demurralref20_Right.bits4 (fun HT_ HW_ => ?_)
                  generalize w20.drew = w21 at BK198 HB hHeld ⊢
                  refine pure_ (i := 0) (N := some 12) (v := ?_) (a' := ?_) bQx1271 rfl rfl (any_of HT_.out (by kernel_rfl)) (fun _ _ _ h => h) (Or.inl ⟨by rfl, ?_⟩) ?_ ?_
                  rotate_left
                  · intro w'
                    go_simp
                    with_reducible rfl
                  rotate_left
                  · simp only [Act.put, List.setIfInBounds_toArray, List.set_cons_zero, List.set_cons_succ, i64_w, i32_w]
                    rfl
                  refine take_ (i := 1) (N := some 13) (v := ?_) (a' := ?_) bQx1272 rfl rfl (take_ofW HT_.out HW_.out (by kernel_rfl)) (fun _ _ _ h => h) (Or.inl ⟨by rfl, ?_⟩) hHeld ?_ ?_
                  rotate_left
                  · rintro w' ⟨s0, s1, s2, s3⟩
                    go_simp
                    with_reducible rfl
                  rotate_left
                  · simp only [Act.put, List.setIfInBounds_toArray, List.set_cons_zero, List.set_cons_succ, i64_w, i32_w]
                    rfl
                  refine one_ (i := 2) (N := some 14) bQx1273 rfl rfl (one_of HT_.out (by kernel_rfl)) (by decide) (fun K hK => ?_)
                  refine goes_ Try.func52 (by kernel_rfl) rfl #[.int .i64 x7_1, .agg #[.int .i64 ((rd_T28 l0 x7_1).f0), .int .u64 ((rd_T28 l0 x7_1).f1), .int .i64 ((rd_T28 l0 x7_1).f2), .int .i64 ((rd_T28 l0 x7_1).f3)]] (by rfl) rfl rfl (by (try simp only [List.map_toArray, List.map_cons, List.map_nil]); first | done | rfl | (simp only [List.length_drop, List.length_take]; rfl) | (simp [Act.eval]; omega)) ?_
                  with_reducible refine (demurralref20_Made.calls k1 x7_1 ((rd_T28 l0 x7_1).f0) ((rd_T28 l0 x7_1).f1) ((rd_T28 l0 x7_1).f2) ((rd_T28 l0 x7_1).f3) true _ A5.out).mono ?_
                  rintro e w22 ⟨rfl, hb⟩
                  refine ⟨_, rfl, ?_⟩
                  have n0_ := Aside0.mk (blk_below (g := gb198) (o := .cells #[.int .i64 ((rd_T28 l0 x7_1).f0), .int .u64 ((rd_T28 l0 x7_1).f1), .int .i64 ((rd_T28 l0 x7_1).f2), .int .i64 ((rd_T28 l0 x7_1).f3)] 28 (0, 0)) (vb_ BK198.out) hb)
                  have n1_ := Aside0.mk (below_step (by repeat (first | (with_reducible first | exact HB.out | apply below_alloc | apply pw_below_drewN | apply below_drew1 | refine below_set ?_ GE198.out) | exact HB.out)) hb)
                  clear BK198
                  clear HB
                  have BK198 := n0_
                  have HB := n1_
                  clear n0_ n1_
                  (try clear hb)
                  (try clear hb2)
                  (try clear hk)
                  (try clear hi)
                  have q23 : (x7_1 : Int) ≤ ((l0.length : Int) : Int) := of_decide_eq_true (by first | (with_reducible assumption) | assumption)
                  obtain ⟨i023, hi023, _, hsz23, _⟩ := info_parts info28
                  have hroom23 : l0.length ≤ c0 := HC0.out
                  have hC23 : Kd.C k28 _ (some ad197) l0.length l0 := HR0.out
                  have hcut23 := cut_to (P := Try.prog) 23 28 .i64 Try.underlying23 hi023 (some ad197) l0.length c0 x7_1 (of_decide_eq_true (by first | (with_reducible assumption) | assumption)) q23 hroom23
                  have hr23 := Kd.C_take (m := (x7_1 : Int).toNat) hC23 (by omega)
                  have hy23 : y200.length = (x7_1 : Int).toNat := (by rw [Ny200.out, List.length_take]; omega)
                  rw [← Ny200.out] at hr23
                  rw [← hy23] at hcut23
                  have HR203 := Aside0.mk hr23
                  have HC203 := Aside0.mk (show y200.length ≤ c0 from by omega)
                  clear hr23 hC23 hroom23 hi023 hsz23
                  have KY23 := Aside0.mk hy23
                  clear hy23
                  replace q23 := eq_true q23
                  refine hK.out _ _ ⟨(blk_cell BK198.out 0).trans rfl, (blk_cell BK198.out 1).trans rfl, (blk_cell BK198.out 2).trans rfl, (blk_cell BK198.out 3).trans rfl⟩ (fun hHeld => ?_)
                  clear hK K
                  refine norm_ (a' := ?_) ?_ ?_
                  rotate_left
                  · show Act.put _ (some 14) _ = _
                    simp only [Act.put, List.setIfInBounds_toArray, List.set_cons_zero, List.set_cons_succ, i64_w, i32_w]
                    rfl
                  refine pure_ (i := 3) (N := some 15) (v := ?_) (a' := ?_) bQx1274 rfl rfl (any_of HT_.out (by kernel_rfl)) (fun _ _ _ h => h) (Or.inl ⟨by rfl, ?_⟩) ?_ ?_
                  rotate_left
                  · intro w'
                    go_simp
                    with_reducible rfl
                  rotate_left
                  · simp only [Act.put, List.setIfInBounds_toArray, List.set_cons_zero, List.set_cons_succ, i64_w, i32_w]
                    rfl
                  refine pure_ (i := 4) (N := some 16) (v := ?_) (a' := ?_) bQx1275 rfl rfl (any_of HT_.out (by kernel_rfl)) (fun _ _ _ h => h) (Or.inl ⟨by rfl, ?_⟩) ?_ ?_
                  rotate_left
                  · intro w'
                    go_simp
                    with_reducible rfl
                  rotate_left
                  · simp only [Act.put, List.setIfInBounds_toArray, List.set_cons_zero, List.set_cons_succ, i64_w, i32_w]
                    rfl
                  refine pure_ (i := 5) (N := some 17) (v := ?_) (a' := ?_) bQx1276 rfl rfl (any_of HT_.out (by kernel_rfl)) (fun _ _ _ h => h) (Or.inl ⟨by rfl, ?_⟩) ?_ ?_
                  rotate_left
                  · intro w'
                    go_simp
                    with_reducible rfl
                  rotate_left
                  · simp only [Act.put, List.setIfInBounds_toArray, List.set_cons_zero, List.set_cons_succ, i64_w, i32_w]
                    rfl
                  refine pure_ (i := 6) (N := some 18) (v := ?_) (a' := ?_) bQx1277 rfl rfl (any_of HT_.out (by kernel_rfl)) (fun _ _ _ h => h) (Or.inl ⟨by rfl, ?_⟩) ?_ ?_
                  rotate_left
                  · intro w'
                    go_simp
                    with_reducible rfl
                  rotate_left
                  · simp only [Act.put, List.setIfInBounds_toArray, List.set_cons_zero, List.set_cons_succ, i64_w, i32_w]
                    rfl
                  refine pure_ (i := 7) (N := some 19) (v := ?_) (a' := ?_) bQx1278 rfl rfl (any_of HT_.out (by kernel_rfl)) (fun _ _ _ h => h) (Or.inl ⟨by rfl, ?_⟩) ?_ ?_
                  rotate_left
                  · intro w'
                    go_simp
                    with_reducible rfl
                  rotate_left
                  · simp only [Act.put, List.setIfInBounds_toArray, List.set_cons_zero, List.set_cons_succ, i64_w, i32_w]
                    rfl
                  refine take_ (i := 8) (N := some 20) (v := ?_) (a' := ?_) bQx1279 rfl rfl (take_ofW HT_.out HW_.out (by kernel_rfl)) (fun _ _ _ h => h) (Or.inl ⟨by rfl, ?_⟩) hHeld ?_ ?_
                  rotate_left
                  · rintro w' ⟨s0, s1, s2, s3⟩
                    go_simp
                    with_reducible rfl
                  rotate_left
                  · simp only [Act.put, List.setIfInBounds_toArray, List.set_cons_zero, List.set_cons_succ, i64_w, i32_w]
                    rfl
                  refine one_ (i := 9) (N := some 21) bQx12710 rfl rfl (one_of HT_.out (by kernel_rfl)) (by decide) (fun K hK => ?_)
                  refine goes_ Try.func53 (by kernel_rfl) rfl #[.slice (some ad197) y200.length c0, .agg #[.int .i64 ((rd_T28 l0 x7_1).f0), .int .u64 ((rd_T28 l0 x7_1).f1), .int .i64 ((rd_T28 l0 x7_1).f2), .int .i64 ((rd_T28 l0 x7_1).f3)]] (by rfl) rfl rfl (by (try simp only [List.map_toArray, List.map_cons, List.map_nil]); first | done | rfl | (simp only [List.length_drop, List.length_take]; rfl) | (simp [Act.eval]; omega)) ?_
                  with_reducible refine (demurralref20_At.calls k1 _ _ y200 ((rd_T28 l0 x7_1).f0) ((rd_T28 l0 x7_1).f1) ((rd_T28 l0 x7_1).f2) ((rd_T28 l0 x7_1).f3) t204 _ ?side1 ?side2 A9.out).mono ?_
                  (case side1 => repeat (first | exact (Kd.C_below HR203.out HB.out) | (with_reducible refine Kd.C_alloc ?_ _) | (with_reducible refine Kd.C_drewN ?_ _) | (with_reducible refine Kd.C_drew ?_)))
                  (case side2 => exact HC203.out)
                  rintro e w24 ⟨rfl, hb⟩
                  refine ⟨_, rfl, ?_⟩
                  have n0_ := Aside0.mk (blk_below (g := gb198) (o := .cells #[.int .i64 ((rd_T28 l0 x7_1).f0), .int .u64 ((rd_T28 l0 x7_1).f1), .int .i64 ((rd_T28 l0 x7_1).f2), .int .i64 ((rd_T28 l0 x7_1).f3)] 28 (0, 0)) (vb_ BK198.out) hb)
                  have n1_ := Aside0.mk (below_step (by repeat (first | (with_reducible first | exact HB.out | apply below_alloc | apply pw_below_drewN | apply below_drew1 | refine below_set ?_ GE198.out) | exact HB.out)) hb)
                  clear BK198
                  clear HB
                  have BK198 := n0_
                  have HB := n1_
                  clear n0_ n1_
                  (try clear hb)
                  (try clear hb2)
                  (try clear hk)
                  (try clear hi)
                  refine hK.out _ _ ⟨(blk_cell BK198.out 0).trans rfl, (blk_cell BK198.out 1).trans rfl, (blk_cell BK198.out 2).trans rfl, (blk_cell BK198.out 3).trans rfl⟩ (fun hHeld => ?_)
                  clear hK K
                  refine norm_ (a' := ?_) ?_ ?_
                  rotate_left
                  · show Act.put _ (some 21) _ = _
                    simp only [Act.put, List.setIfInBounds_toArray, List.set_cons_zero, List.set_cons_succ, i64_w, i32_w]
                    rfl
                  refine pure_ (i := 10) (N := some 22) (v := ?_) (a' := ?_) bQx12711 rfl rfl (any_of HT_.out (by kernel_rfl)) (fun _ _ _ h => h) (Or.inl ⟨by rfl, ?_⟩) ?_ ?_
                  rotate_left
                  · intro w'
                    go_simp
                    with_reducible rfl
                  rotate_left
                  · simp only [Act.put, List.setIfInBounds_toArray, List.set_cons_zero, List.set_cons_succ, i64_w, i32_w]
                    rfl
                  refine pure_ (i := 11) (N := some 23) (v := ?_) (a' := ?_) bQx12712 rfl rfl (any_of HT_.out (by kernel_rfl)) (fun _ _ _ h => h) (Or.inl ⟨by rfl, ?_⟩) ?_ ?_
                  rotate_left
                  · intro w'
                    go_simp
                    with_reducible rfl
                  rotate_left
                  · simp only [Act.put, List.setIfInBounds_toArray, List.set_cons_zero, List.set_cons_succ, i64_w, i32_w]
                    rfl
                  refine done_ (done_of HT_.out (by kernel_rfl)) ?_
                  try go_wp2
                  go_roundg k1
                  case measure => have := HK1.out; omega
                  case rel => exact ⟨(wrap64 (x7_1 + 1)), (by first | rfl | (simp; done) | (simp [*]; done)), H', ⟨by have := HK1.out; omega⟩, ⟨by repeat (first | (with_reducible first | exact HB.out | apply below_alloc | apply pw_below_drewN | apply below_drew1 | refine below_set ?_ GE198.out) | exact HB.out)⟩⟩
              · rw [if_neg c8] at H
                exact absurd H (by simp)
            · replace c6 := Bool.eq_false_iff.mpr c6
              subst c6
              have H1 : (some false) = some r := by rw [if_neg (show ¬ (false = true) by decide)] at H; exact H
              clear H
              have H := H1
              clear H1
              obtain rfl := Option.some.inj H
              have p197 : 0 ≤ (x7_1 : Int) := of_decide_eq_true (by first | (with_reducible assumption) | assumption)
              have q197 : x7_1 < (l0.length : Int) := of_decide_eq_true (by first | (with_reducible assumption) | assumption)
              obtain ⟨ad197, e197, hx197_0, hx197_1, hx197_2, hx197_3⟩ := at_T28 HR0.out x7_1 p197 q197
              cases e197
              replace hx197_0 := (HB.out.cell (World.block_lt_of_cell? w _ hx197_0)).trans hx197_0
              replace hx197_1 := (HB.out.cell (World.block_lt_of_cell? w _ hx197_1)).trans hx197_1
              replace hx197_2 := (HB.out.cell (World.block_lt_of_cell? w _ hx197_2)).trans hx197_2
              replace hx197_3 := (HB.out.cell (World.block_lt_of_cell? w _ hx197_3)).trans hx197_3
              replace p197 := eq_true p197
              replace q197 := eq_true q197
              try go_wp2_with (first | ((with_reducible refine gate_dst (N := 4) rfl ?_); refine box_event ?hg (N := 4) ?hd (cs := #[.int .i64 0, .int .u64 0, .int .i64 0, .int .i64 0]) (t := 28) ?hr ?_; (case hd => rfl); (case hg => rfl); (case hr => first | (go_simp; done) | (go_simp; rfl)); intro gb198 hg w25 hbox hb; have n0_ := Aside0.mk (below_step (wb_ HB.out) hb); have n1_ := Aside0.mk (hbox); have n2_ := Aside0.mk ((by rw [hg]; exact (below_size (wb_ HB.out)) : w.heap.size ≤ gb198)); have n3_ := Aside0.mk ((by rw [hg]; exact (below_size (wb_ HB.out)) : w.heap.size ≤ gb198)); clear HB; have HB := n0_; have BK198 := n1_; have GW198 := n2_; have GE198 := n3_; clear n0_ n1_ n2_ n3_; clear hb hbox hg; have hcz26_0 : w25.cell? ⟨gb198, 0, none⟩ = some (.int .i64 0) := (blk_cell BK198.out 0).trans rfl; have hcz26_1 : w25.cell? ⟨gb198, 1, none⟩ = some (.int .u64 0) := (blk_cell BK198.out 1).trans rfl; have hcz26_2 : w25.cell? ⟨gb198, 2, none⟩ = some (.int .i64 0) := (blk_cell BK198.out 2).trans rfl; have hcz26_3 : w25.cell? ⟨gb198, 3, none⟩ = some (.int .i64 0) := (blk_cell BK198.out 3).trans rfl; have hfz26_0 := blk_frozen BK198.out 0; have hfz26_1 := blk_frozen BK198.out 1; have hfz26_2 := blk_frozen BK198.out 2; have hfz26_3 := blk_frozen BK198.out 3))
              have n0_ : Aside0 (((((w25.setCell ⟨gb198, 0, none⟩ (.int .i64 ((rd_T28 l0 x7_1).f0))).setCell ⟨gb198, 1, none⟩ (.int .u64 ((rd_T28 l0 x7_1).f1))).setCell ⟨gb198, 2, none⟩ (.int .i64 ((rd_T28 l0 x7_1).f2))).setCell ⟨gb198, 3, none⟩ (.int .i64 ((rd_T28 l0 x7_1).f3))).heap[gb198]? = some (.cells #[.int .i64 ((rd_T28 l0 x7_1).f0), .int .u64 ((rd_T28 l0 x7_1).f1), .int .i64 ((rd_T28 l0 x7_1).f2), .int .i64 ((rd_T28 l0 x7_1).f3)] 28 (0, 0))) := ⟨by (with_reducible repeat (first | refine blk_drewN ?_ _ | refine blk_drew ?_ | refine blk_alloc ?_ _)); refine blk_put (cs := #[.int .i64 ((rd_T28 l0 x7_1).f0), .int .u64 ((rd_T28 l0 x7_1).f1), .int .i64 ((rd_T28 l0 x7_1).f2), .int .i64 0]) ?_ 3 _ rfl; (with_reducible repeat (first | refine blk_drewN ?_ _ | refine blk_drew ?_ | refine blk_alloc ?_ _)); refine blk_put (cs := #[.int .i64 ((rd_T28 l0 x7_1).f0), .int .u64 ((rd_T28 l0 x7_1).f1), .int .i64 0, .int .i64 0]) ?_ 2 _ rfl; (with_reducible repeat (first | refine blk_drewN ?_ _ | refine blk_drew ?_ | refine blk_alloc ?_ _)); refine blk_put (cs := #[.int .i64 ((rd_T28 l0 x7_1).f0), .int .u64 0, .int .i64 0, .int .i64 0]) ?_ 1 _ rfl; (with_reducible repeat (first | refine blk_drewN ?_ _ | refine blk_drew ?_ | refine blk_alloc ?_ _)); refine blk_put (cs := #[.int .i64 0, .int .u64 0, .int .i64 0, .int .i64 0]) ?_ 0 _ rfl; (with_reducible repeat (first | refine blk_drewN ?_ _ | refine blk_drew ?_ | refine blk_alloc ?_ _)); exact BK198.out⟩
              have n1_ : Aside0 (Below w.heap.size w ((((w25.setCell ⟨gb198, 0, none⟩ (.int .i64 ((rd_T28 l0 x7_1).f0))).setCell ⟨gb198, 1, none⟩ (.int .u64 ((rd_T28 l0 x7_1).f1))).setCell ⟨gb198, 2, none⟩ (.int .i64 ((rd_T28 l0 x7_1).f2))).setCell ⟨gb198, 3, none⟩ (.int .i64 ((rd_T28 l0 x7_1).f3)))) := ⟨by repeat (first | (with_reducible first | exact HB.out | apply below_alloc | apply pw_below_drewN | apply below_drew1 | refine below_set ?_ GE198.out) | exact HB.out)⟩
              (try clear BK198)
              (try clear HB)
              generalize ((((w25.setCell ⟨gb198, 0, none⟩ (.int .i64 ((rd_T28 l0 x7_1).f0))).setCell ⟨gb198, 1, none⟩ (.int .u64 ((rd_T28 l0 x7_1).f1))).setCell ⟨gb198, 2, none⟩ (.int .i64 ((rd_T28 l0 x7_1).f2))).setCell ⟨gb198, 3, none⟩ (.int .i64 ((rd_T28 l0 x7_1).f3))) = w27 at n0_ n1_ ⊢
              have BK198 := n0_
              have HB := n1_
              clear n0_ n1_
              have n0_ := Aside0.mk (blk_drew BK198.out)
              have n1_ := Aside0.mk (below_drew1 HB.out)
              clear BK198
              clear HB
              have BK198 := n0_
              have HB := n1_
              clear n0_ n1_
              refine start_ (n := 12) (S := fun w' => w'.cell? ⟨gb198, 0, none⟩ = some (.int .i64 ((rd_T28 l0 x7_1).f0)) ∧ w'.cell? ⟨gb198, 1, none⟩ = some (.int .u64 ((rd_T28 l0 x7_1).f1)) ∧ w'.cell? ⟨gb198, 2, none⟩ = some (.int .i64 ((rd_T28 l0 x7_1).f2)) ∧ w'.cell? ⟨gb198, 3, none⟩ = some (.int .i64 ((rd_T28 l0 x7_1).f3))) (ds := []) bQx1270 (by kernel_rfl) rfl rfl ⟨(blk_cell BK198.out 0).trans rfl, (blk_cell BK198.out 1).trans rfl, (blk_cell BK198.out 2).trans rfl, (blk_cell BK198.out 3).trans rfl⟩ (fun hHeld => ?_); refine with_tabW demurralref20_Right.tab4 demurralref20_Right.bits4 (fun HT_ HW_ => ?_)
              generalize w27.drew = w28 at BK198 HB hHeld ⊢
              refine pure_ (i := 0) (N := some 12) (v := ?_) (a' := ?_) bQx1271 rfl rfl (any_of HT_.out (by kernel_rfl)) (fun _ _ _ h => h) (Or.inl ⟨by rfl, ?_⟩) ?_ ?_
              rotate_left
              · intro w'
                go_simp
                with_reducible rfl
              rotate_left
              · simp only [Act.put, List.setIfInBounds_toArray, List.set_cons_zero, List.set_cons_succ, i64_w, i32_w]
                rfl
              refine take_ (i := 1) (N := some 13) (v := ?_) (a' := ?_) bQx1272 rfl rfl (take_ofW HT_.out HW_.out (by kernel_rfl)) (fun _ _ _ h => h) (Or.inl ⟨by rfl, ?_⟩) hHeld ?_ ?_
              rotate_left
              · rintro w' ⟨s0, s1, s2, s3⟩
                go_simp
                with_reducible rfl
              rotate_left
              · simp only [Act.put, List.setIfInBounds_toArray, List.set_cons_zero, List.set_cons_succ, i64_w, i32_w]
                rfl
              refine one_ (i := 2) (N := some 14) bQx1273 rfl rfl (one_of HT_.out (by kernel_rfl)) (by decide) (fun K hK => ?_)
              refine goes_ Try.func52 (by kernel_rfl) rfl #[.int .i64 x7_1, .agg #[.int .i64 ((rd_T28 l0 x7_1).f0), .int .u64 ((rd_T28 l0 x7_1).f1), .int .i64 ((rd_T28 l0 x7_1).f2), .int .i64 ((rd_T28 l0 x7_1).f3)]] (by rfl) rfl rfl (by (try simp only [List.map_toArray, List.map_cons, List.map_nil]); first | done | rfl | (simp only [List.length_drop, List.length_take]; rfl) | (simp [Act.eval]; omega)) ?_
              with_reducible refine (demurralref20_Made.calls k1 x7_1 ((rd_T28 l0 x7_1).f0) ((rd_T28 l0 x7_1).f1) ((rd_T28 l0 x7_1).f2) ((rd_T28 l0 x7_1).f3) false _ A5.out).mono ?_
              rintro e w29 ⟨rfl, hb⟩
              refine ⟨_, rfl, ?_⟩
              have n0_ := Aside0.mk (blk_below (g := gb198) (o := .cells #[.int .i64 ((rd_T28 l0 x7_1).f0), .int .u64 ((rd_T28 l0 x7_1).f1), .int .i64 ((rd_T28 l0 x7_1).f2), .int .i64 ((rd_T28 l0 x7_1).f3)] 28 (0, 0)) (vb_ BK198.out) hb)
              have n1_ := Aside0.mk (below_step (by repeat (first | (with_reducible first | exact HB.out | apply below_alloc | apply pw_below_drewN | apply below_drew1 | refine below_set ?_ GE198.out) | exact HB.out)) hb)
              clear BK198
              clear HB
              have BK198 := n0_
              have HB := n1_
              clear n0_ n1_
              (try clear hb)
              (try clear hb2)
              (try clear hk)
              (try clear hi)
              refine hK.out _ _ ⟨(blk_cell BK198.out 0).trans rfl, (blk_cell BK198.out 1).trans rfl, (blk_cell BK198.out 2).trans rfl, (blk_cell BK198.out 3).trans rfl⟩ (fun hHeld => ?_)
              clear hK K
              refine norm_ (a' := ?_) ?_ ?_
              rotate_left
              · show Act.put _ (some 14) _ = _
                simp only [Act.put, List.setIfInBounds_toArray, List.set_cons_zero, List.set_cons_succ, i64_w, i32_w]
                rfl
              refine pure_ (i := 3) (N := some 15) (v := ?_) (a' := ?_) bQx1274 rfl rfl (any_of HT_.out (by kernel_rfl)) (fun _ _ _ h => h) (Or.inl ⟨by rfl, ?_⟩) ?_ ?_
              rotate_left
              · intro w'
                go_simp
                with_reducible rfl
              rotate_left
              · simp only [Act.put, List.setIfInBounds_toArray, List.set_cons_zero, List.set_cons_succ, i64_w, i32_w]
                rfl
              refine pure_ (i := 4) (N := some 16) (v := ?_) (a' := ?_) bQx1275 rfl rfl (any_of HT_.out (by kernel_rfl)) (fun _ _ _ h => h) (Or.inl ⟨by rfl, ?_⟩) ?_ ?_
              rotate_left
              · intro w'
                go_simp
                with_reducible rfl
              rotate_left
              · simp only [Act.put, List.setIfInBounds_toArray, List.set_cons_zero, List.set_cons_succ, i64_w, i32_w]
                rfl
              refine pure_ (i := 5) (N := some 17) (v := undef) (a' := ?_) bQx1276 rfl rfl (any_of HT_.out (by kernel_rfl)) (fun _ _ _ h => h) (Or.inr ⟨by rfl, rfl⟩) ?_ ?_
              rotate_left
              · simp only [Act.put, List.setIfInBounds_toArray, List.set_cons_zero, List.set_cons_succ, i64_w, i32_w]
                rfl
              refine pure_ (i := 6) (N := some 18) (v := undef) (a' := ?_) bQx1277 rfl rfl (any_of HT_.out (by kernel_rfl)) (fun _ _ _ h => h) (Or.inr ⟨by rfl, rfl⟩) ?_ ?_
              rotate_left
              · simp only [Act.put, List.setIfInBounds_toArray, List.set_cons_zero, List.set_cons_succ, i64_w, i32_w]
                rfl
              refine pure_ (i := 7) (N := some 19) (v := undef) (a' := ?_) bQx1278 rfl rfl (any_of HT_.out (by kernel_rfl)) (fun _ _ _ h => h) (Or.inr ⟨by rfl, rfl⟩) ?_ ?_
              rotate_left
              · simp only [Act.put, List.setIfInBounds_toArray, List.set_cons_zero, List.set_cons_succ, i64_w, i32_w]
                rfl
              refine pure_ (i := 8) (N := some 20) (v := undef) (a' := ?_) bQx1279 rfl rfl (any_of HT_.out (by kernel_rfl)) (fun _ _ _ h => h) (Or.inr ⟨by rfl, rfl⟩) ?_ ?_
              rotate_left
              · simp only [Act.put, List.setIfInBounds_toArray, List.set_cons_zero, List.set_cons_succ, i64_w, i32_w]
                rfl
              refine pure_ (i := 9) (N := some 21) (v := undef) (a' := ?_) bQx12710 rfl rfl (any_of HT_.out (by kernel_rfl)) (fun _ _ _ h => h) (Or.inr ⟨by rfl, rfl⟩) ?_ ?_
              rotate_left
              · simp only [Act.put, List.setIfInBounds_toArray, List.set_cons_zero, List.set_cons_succ, i64_w, i32_w]
                rfl
              refine pure_ (i := 10) (N := some 22) (v := undef) (a' := ?_) bQx12711 rfl rfl (any_of HT_.out (by kernel_rfl)) (fun _ _ _ h => h) (Or.inr ⟨by rfl, rfl⟩) ?_ ?_
              rotate_left
              · simp only [Act.put, List.setIfInBounds_toArray, List.set_cons_zero, List.set_cons_succ, i64_w, i32_w]
                rfl
              refine pure_ (i := 11) (N := some 23) (v := ?_) (a' := ?_) bQx12712 rfl rfl (any_of HT_.out (by kernel_rfl)) (fun _ _ _ h => h) (Or.inl ⟨by rfl, ?_⟩) ?_ ?_
              rotate_left
              · intro w'
                go_simp
                with_reducible rfl
              rotate_left
              · simp only [Act.put, List.setIfInBounds_toArray, List.set_cons_zero, List.set_cons_succ, i64_w, i32_w]
                rfl
              refine done_ (done_of HT_.out (by kernel_rfl)) ?_
              try go_wp2
              go_ret
              exact ⟨by first | rfl | (simp [errW_none, errW_some] <;> rfl) | (simp [*, errW_none, errW_some] <;> rfl), by repeat (first | (with_reducible first | exact HB.out | apply below_alloc | apply pw_below_drewN | apply below_drew1 | refine below_set ?_ GE198.out) | exact HB.out)⟩
          · rw [if_neg c4] at H
            exact absurd H (by simp)
        · rw [if_neg c3] at H
          exact absurd H (by simp)
      · rw [if_neg c2] at H
        have c2b0 : decide (x7_1 < (l0.length : Int)) = false := decide_eq_false c2
        clear c2
        obtain rfl := Option.some.inj H
        go_wp2
        go_ret
        exact ⟨by first | rfl | (simp [errW_none, errW_some] <;> rfl) | (simp [*, errW_none, errW_some] <;> rfl), by repeat (first | (with_reducible first | exact HB.out | apply below_alloc | apply pw_below_drewN | apply below_drew1) | exact HB.out)⟩

end Go.Proofs.Ytenmmeehgnkcpaa.Q
