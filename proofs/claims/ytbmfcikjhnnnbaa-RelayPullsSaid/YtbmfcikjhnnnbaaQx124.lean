-- PRINTED by print.py (a twelfth state) out of the translation. Not trusted: Lean checks it.
import Derived.Test.YtbmfcikjhnnnbaaHStep
import Derived.Test.YtbmfcikjhnnnbaaQx0
namespace Go.Proofs.Ytbmfcikjhnnnbaa.Q
open Go.RowKit Go.Proofs.YtbmfcikjhnnnbaaW.PrintWords Go.Proofs.YtbmfcikjhnnnbaaW.PrintLast Go.Proofs.YtbmfcikjhnnnbaaW.PrintMore
attribute [local go_sem] max2_int min2_int max_two min_two max_three min_three max_four min_four   -- for this text's walks alone
set_option linter.unusedVariables false
set_option linter.unusedSimpArgs false

/-! ### demurralref16_With: function 24 -/
mutual
def demurralref16_With.l0 : Nat → Int → List (S54) → List (S57) → List (S57) → Int → Int → List (S57) → Int → Int → Option ((List (S57)) × Int × Int)
  | 0, _, _, _, _, _, _, _, _, _ => none
  | k + 1, x1, x2, x7, x14, x15, x16, x176000, x176001, x176002 => if x16 < x15 then (if 0 ≤ x16 then (if x16 < (x14.length : Int) then (if ((rd_T57 x14 x16).f0) < x1 then (if x7.length < 4398046511104 then (demurralref16_With.l0 k x1 x2 (x7 ++ [(⟨(rd_T57 x14 x16).f0, (rd_T57 x14 x16).f1⟩ : S57)]) x14 x15 (wrap64 (x16 + 1)) x176000 x176001 x176002) else (none)) else (demurralref16_With.l0 k x1 x2 x7 x14 x15 (wrap64 (x16 + 1)) x176000 x176001 x176002)) else (none)) else (none)) else (if (x2.length : Int) > 0 then (if x7.length < 4398046511104 then (demurralref16_With.j1 k x1 (x7 ++ [(⟨x1, x2⟩ : S57)]) x176000 x176001 x176002) else (none)) else (demurralref16_With.j1 k x1 x7 x176000 x176001 x176002))
def demurralref16_With.j1 : Nat → Int → List (S57) → List (S57) → Int → Int → Option ((List (S57)) × Int × Int)
  | 0, _, _, _, _, _ => none
  | k + 1, x1, x7, x176000, x176001, x176002 => demurralref16_With.l1 k x1 x7 x176000 (x176000.length : Int) 0 x176000 x176001 x176002
def demurralref16_With.l1 : Nat → Int → List (S57) → List (S57) → Int → Int → List (S57) → Int → Int → Option ((List (S57)) × Int × Int)
  | 0, _, _, _, _, _, _, _, _ => none
  | k + 1, x1, x7, x39, x40, x41, x176000, x176001, x176002 => if x41 < x40 then (if 0 ≤ x41 then (if x41 < (x39.length : Int) then (if ((rd_T57 x39 x41).f0) > x1 then (if x7.length < 4398046511104 then (demurralref16_With.l1 k x1 (x7 ++ [(⟨(rd_T57 x39 x41).f0, (rd_T57 x39 x41).f1⟩ : S57)]) x39 x40 (wrap64 (x41 + 1)) x176000 x176001 x176002) else (none)) else (demurralref16_With.l1 k x1 x7 x39 x40 (wrap64 (x41 + 1)) x176000 x176001 x176002)) else (none)) else (none)) else (some (x7, x176001, x176002))
end
def demurralref16_With.f (k : Nat) (l0_0 : List (S57)) (a0_1 : Int) (a0_2 : Int) (a1 : Int) (l2 : List (S54)) : Option ((List (S57)) × Int × Int) := demurralref16_With.l0 k a1 l2 (([] : List (S57))) l0_0 (l0_0.length : Int) 0 l0_0 a0_1 a0_2
theorem demurralref16_With.mono_l : ∀ k, (∀ y0 y1 y2 y3 y4 y5 y6 y7 y8, LeO (demurralref16_With.l0 k y0 y1 y2 y3 y4 y5 y6 y7 y8) (demurralref16_With.l0 (k + 1) y0 y1 y2 y3 y4 y5 y6 y7 y8)) ∧ (∀ y0 y1 y2 y3 y4, LeO (demurralref16_With.j1 k y0 y1 y2 y3 y4) (demurralref16_With.j1 (k + 1) y0 y1 y2 y3 y4)) ∧ (∀ y0 y1 y2 y3 y4 y5 y6 y7, LeO (demurralref16_With.l1 k y0 y1 y2 y3 y4 y5 y6 y7) (demurralref16_With.l1 (k + 1) y0 y1 y2 y3 y4 y5 y6 y7))
  | 0 => ⟨fun _ _ _ _ _ _ _ _ _ r h => by simp [demurralref16_With.l0] at h, fun _ _ _ _ _ r h => by simp [demurralref16_With.j1] at h, fun _ _ _ _ _ _ _ _ r h => by simp [demurralref16_With.l1] at h⟩
  | k + 1 => by
    obtain ⟨ih0, ih1, ih2⟩ := demurralref16_With.mono_l k
    refine ⟨?_, ?_, ?_⟩
    · intro y0 y1 y2 y3 y4 y5 y6 y7 y8
      unfold demurralref16_With.l0
      repeat' first
      | (with_reducible exact ih0 _ _ _ _ _ _ _ _ _)
      | (with_reducible exact ih1 _ _ _ _ _)
      | (with_reducible exact ih2 _ _ _ _ _ _ _ _)
      | (with_reducible exact LeO.refl _)
      | (with_reducible exact LeO.none _)
      | (with_reducible refine LeO.ite ?_ ?_)
      | (with_reducible refine LeO.bind ?_ (fun _ => ?_))
      | exact ih0 _ _ _ _ _ _ _ _ _
      | exact ih1 _ _ _ _ _
      | exact ih2 _ _ _ _ _ _ _ _
      | exact LeO.none _
      | refine LeO.ite ?_ ?_
      | refine LeO.bind ?_ (fun _ => ?_)
    · intro y0 y1 y2 y3 y4
      unfold demurralref16_With.j1
      repeat' first
      | (with_reducible exact ih0 _ _ _ _ _ _ _ _ _)
      | (with_reducible exact ih1 _ _ _ _ _)
      | (with_reducible exact ih2 _ _ _ _ _ _ _ _)
      | (with_reducible exact LeO.refl _)
      | (with_reducible exact LeO.none _)
      | (with_reducible refine LeO.ite ?_ ?_)
      | (with_reducible refine LeO.bind ?_ (fun _ => ?_))
      | exact ih0 _ _ _ _ _ _ _ _ _
      | exact ih1 _ _ _ _ _
      | exact ih2 _ _ _ _ _ _ _ _
      | exact LeO.none _
      | refine LeO.ite ?_ ?_
      | refine LeO.bind ?_ (fun _ => ?_)
    · intro y0 y1 y2 y3 y4 y5 y6 y7
      unfold demurralref16_With.l1
      repeat' first
      | (with_reducible exact ih0 _ _ _ _ _ _ _ _ _)
      | (with_reducible exact ih1 _ _ _ _ _)
      | (with_reducible exact ih2 _ _ _ _ _ _ _ _)
      | (with_reducible exact LeO.refl _)
      | (with_reducible exact LeO.none _)
      | (with_reducible refine LeO.ite ?_ ?_)
      | (with_reducible refine LeO.bind ?_ (fun _ => ?_))
      | exact ih0 _ _ _ _ _ _ _ _ _
      | exact ih1 _ _ _ _ _
      | exact ih2 _ _ _ _ _ _ _ _
      | exact LeO.none _
      | refine LeO.ite ?_ ?_
      | refine LeO.bind ?_ (fun _ => ?_)
theorem demurralref16_With.mono : ∀ a0 a1 a2 a3 a4 k, LeO (demurralref16_With.f k a0 a1 a2 a3 a4) (demurralref16_With.f (k + 1) a0 a1 a2 a3 a4) := by
  intro a0 a1 a2 a3 a4 k
  obtain ⟨ih0, ih1, ih2⟩ := demurralref16_With.mono_l k
  unfold demurralref16_With.f
  repeat' first
      | (with_reducible exact ih0 _ _ _ _ _ _ _ _ _)
      | (with_reducible exact ih1 _ _ _ _ _)
      | (with_reducible exact ih2 _ _ _ _ _ _ _ _)
      | (with_reducible exact LeO.refl _)
      | (with_reducible exact LeO.none _)
      | (with_reducible refine LeO.ite ?_ ?_)
      | (with_reducible refine LeO.bind ?_ (fun _ => ?_))
      | exact ih0 _ _ _ _ _ _ _ _ _
      | exact ih1 _ _ _ _ _
      | exact ih2 _ _ _ _ _ _ _ _
      | exact LeO.none _
      | refine LeO.ite ?_ ?_
      | refine LeO.bind ?_ (fun _ => ?_)
set_option maxHeartbeats 8000000 in
set_option maxRecDepth 100000 in
theorem demurralref16_With.calls (k : Nat) (P0_0_ : Nat → Prop) (A0_0 : Option Addr) (c0_0 : Nat) (l0_0 : List (S57)) (a0_1 : Int) (a0_2 : Int) (a1 : Int) (P2_ : Nat → Prop) (A2 : Option Addr) (c2 : Nat) (l2 : List (S54)) (r1 : List (S57)) (r2 : Int) (r3 : Int) (w : World) (hs0_0 : Kd.V k57 57 w w.heap.size (fun k_ => P0_0_ k_) (.slice A0_0 l0_0.length c0_0) l0_0) (hs2 : Kd.V k54 54 w w.heap.size (fun k_ => P2_ k_) (.slice A2 l2.length c2) l2) (h : demurralref16_With.f k l0_0 a0_1 a0_2 a1 l2 = some (r1, r2, r3)) :
    Calls Try.prog 24 #[.agg #[.slice A0_0 l0_0.length c0_0, .int .u64 a0_1, .int .u64 a0_2], .int .u64 a1, .slice A2 l2.length c2] w fun e w' => ∃ v0_ : Value, e = .returned (.agg #[v0_, .int .u64 r2, .int .u64 r3]) ∧ Kd.N k57 57 w' w.heap.size (fun k_ => ((P0_0_ k_ ∨ P2_ k_) ∨ w.heap.size ≤ k_)) v0_ r1 ∧ Below w.heap.size w w' := by
  have hu25 := Try.underlying25
  have hu57 := Try.underlying57
  have HO0_0 := Aside0.mk (show Kd.V k57 57 w w.heap.size (fun k_ => ((P0_0_ k_ ∨ P2_ k_) ∨ w.heap.size ≤ k_)) (.slice A0_0 l0_0.length c0_0) l0_0 from Kd.V_mono hs0_0 (fun k_ hk => .inl (.inl hk)))
  have HO2 := Aside0.mk (show Kd.V k54 54 w w.heap.size (fun k_ => ((P0_0_ k_ ∨ P2_ k_) ∨ w.heap.size ≤ k_)) (.slice A2 l2.length c2) l2 from Kd.V_mono hs2 (fun k_ hk => .inl (.inr hk)))
  have HB := Aside0.mk (Below.refl w.heap.size w)
  have H : (demurralref16_With.l0 k a1 l2 (([] : List (S57))) l0_0 (l0_0.length : Int) 0 l0_0 a0_1 a0_2) = some (r1, r2, r3) := h
  clear h
  obtain ⟨y177, hy177⟩ : ∃ y_ : List (S57), y_ = (([] : List (S57))) := ⟨_, rfl⟩
  replace H : (demurralref16_With.l0 k a1 l2 y177 l0_0 (l0_0.length : Int) 0 l0_0 a0_1 a0_2) = some (r1, r2, r3) := by first | (rw [hy177]; with_reducible exact H) | (have H2_ := (Option.bind_some _ _).symm.trans H; rw [hy177]; with_reducible exact H2_) | (have H2_ := (Option.bind_some _ _).symm.trans H; with_reducible exact H2_) | with_reducible exact H | (rw [hy177]; exact H) | exact H
  have Ny177 := Aside0.mk hy177
  clear hy177
  have H' := Aside0.mk H
  clear H
  go_enter Try.func24, Try.ntmps24
  go_wp2_with (first | ((with_reducible refine gate_dst (N := 3) rfl ?_); refine box_event ?hg (N := 3) ?hd (cs := #[.slice A0_0 l0_0.length c0_0, .int .u64 a0_1, .int .u64 a0_2]) (t := 25) ?hr ?_; (case hd => rfl); (case hg => rfl); (case hr => first | (go_simp; done) | (go_simp; rfl)); intro gb175 hg w4 hbox hb; have n0_ := Aside0.mk (Kd.V_below (Kd.V_elderB (kV_ HO0_0.out) gb175 (Nat.le_of_eq hg.symm)) hb); have n1_ := Aside0.mk (Kd.V_below (Kd.V_elderB (kV_ HO2.out) gb175 (Nat.le_of_eq hg.symm)) hb); have n2_ := Aside0.mk (below_step (wb_ HB.out) hb); have n3_ := Aside0.mk (hbox); have n4_ := Aside0.mk ((by rw [hg]; exact (below_size (wb_ HB.out)) : w.heap.size ≤ gb175)); have n5_ := Aside0.mk ((by rw [hg]; exact (below_size (wb_ HB.out)) : w.heap.size ≤ gb175)); clear HO0_0; clear HO2; clear HB; have HO0_0 := n0_; have HO2 := n1_; have HB := n2_; have BK175 := n3_; have GW175 := n4_; have GE175 := n5_; clear n0_ n1_ n2_ n3_ n4_ n5_; clear hb hbox hg) | ((with_reducible refine gate_dst (N := 6) rfl ?_); refine box_event ?hg (N := 6) ?hd (cs := #[.slice none 0 0, .int .u64 0, .int .u64 0]) (t := 25) ?hr ?_; (case hd => rfl); (case hg => rfl); (case hr => first | (go_simp; done) | (go_simp; rfl)); intro gb176 hg w5 hbox hb; have n0_ := Aside0.mk (Kd.V_below (Kd.V_elderB (kV_ HO0_0.out) gb176 (Nat.le_of_eq hg.symm)) hb); have n1_ := Aside0.mk (Kd.V_below (Kd.V_elderB (kV_ HO2.out) gb176 (Nat.le_of_eq hg.symm)) hb); have n2_ := Aside0.mk (blk_below (g := gb175) (o := .cells #[.slice A0_0 l0_0.length c0_0, .int .u64 a0_1, .int .u64 a0_2] 25 (0, 0)) (vb_ BK175.out) hb); have n3_ := Aside0.mk (below_step (by repeat (first | (with_reducible first | exact HB.out | apply below_alloc | apply pw_below_drewN | apply below_drew1 | refine below_set ?_ GE175.out) | exact HB.out)) hb); have n4_ := Aside0.mk (hbox); have n5_ := Aside0.mk ((by rw [hg]; exact (below_size (by repeat (first | (with_reducible first | exact HB.out | apply below_alloc | apply pw_below_drewN | apply below_drew1 | refine below_set ?_ GE175.out) | exact HB.out))) : w.heap.size ≤ gb176)); have n6_ := Aside0.mk ((by rw [hg]; exact (below_size (by repeat (first | (with_reducible first | exact HB.out | apply below_alloc | apply pw_below_drewN | apply below_drew1 | refine below_set ?_ GE175.out) | exact HB.out))) : w.heap.size ≤ gb176)); have n7_ := Aside0.mk ((by rw [hg]; exact Nat.ne_of_lt (blk_lt (g := gb175) (o := .cells #[.slice A0_0 l0_0.length c0_0, .int .u64 a0_1, .int .u64 a0_2] 25 (0, 0)) (vb_ BK175.out)) : gb175 ≠ gb176)); have n8_ := Aside0.mk ((by rw [hg]; exact Nat.ne_of_gt (blk_lt (g := gb175) (o := .cells #[.slice A0_0 l0_0.length c0_0, .int .u64 a0_1, .int .u64 a0_2] 25 (0, 0)) (vb_ BK175.out)) : gb176 ≠ gb175)); clear HO0_0; clear HO2; clear BK175; clear HB; have HO0_0 := n0_; have HO2 := n1_; have BK175 := n2_; have HB := n3_; have BK176 := n4_; have GW176 := n5_; have GE176 := n6_; have NB175_176 := n7_; have NB176_175 := n8_; clear n0_ n1_ n2_ n3_ n4_ n5_ n6_ n7_ n8_; clear hb hbox hg) | ((with_reducible refine gate_dst (N := 12) rfl ?_); refine Kd.N_lit k57 _ 57 ?hg (N' := 12) ?hd (xs := ([] : List (S57))) (inner := []) (ok := (fun k_ => ((P0_0_ k_ ∨ P2_ k_) ∨ w.heap.size ≤ k_) ∧ k_ ≠ gb175 ∧ k_ ≠ gb176)) (okp := (fun k_ => ((P0_0_ k_ ∨ P2_ k_) ∨ w.heap.size ≤ k_) ∧ k_ ≠ gb175 ∧ k_ ≠ gb176)) ?hr ?hp (fun _ hk => hk) ((show ∀ k_, w5.heap.size ≤ k_ → (fun k_ => ((P0_0_ k_ ∨ P2_ k_) ∨ w.heap.size ≤ k_) ∧ k_ ≠ gb175 ∧ k_ ≠ gb176) k_ from fun k_ hk => ⟨(.inr (Nat.le_trans (below_size (by repeat (first | (with_reducible first | exact HB.out | apply below_alloc | apply pw_below_drewN | apply below_drew1 | refine below_set ?_ GE175.out | refine below_set ?_ GE176.out) | exact HB.out))) hk)), Kd.freshB (g := gb175) (o := .cells #[.slice A0_0 l0_0.length c0_0, .int .u64 a0_1, .int .u64 a0_2] 25 (0, 0)) (vb_ BK175.out) k_ hk, Kd.freshB (g := gb176) (o := .cells #[.slice none 0 0, .int .u64 0, .int .u64 0] 25 (0, 0)) (vb_ BK176.out) k_ hk⟩) _ (Nat.le_refl _)) (Below.refl _ _) (Nat.le_refl _) (by simp) ?_; (case hd => rfl); (case hg => rfl); (case hr => first | (go_simp; done) | (go_simp; rfl)); (case hp => exact (Reps.none _ _)); intro v178 w6 ho7 hb hg_ hnew_; clear hg_ hnew_; (first | rw [← Ny177.out] at ho7 | (simp only [Int.reduceToNat] at ho7; rw [← Ny177.out] at ho7)); have n0_ := Aside0.mk (Kd.V_elder' (kV_ HO0_0.out) (Kd.N_base ho7) hb); have n1_ := Aside0.mk (Kd.V_elder' (kV_ HO2.out) (Kd.N_base ho7) hb); have n2_ := Aside0.mk (Kd.N_lower ho7 (below_size (by repeat (first | (with_reducible first | exact HB.out | apply below_alloc | apply pw_below_drewN | apply below_drew1 | refine below_set ?_ GE175.out | refine below_set ?_ GE176.out) | exact HB.out)))); have n3_ := Aside0.mk (blk_below (g := gb175) (o := .cells #[.slice A0_0 l0_0.length c0_0, .int .u64 a0_1, .int .u64 a0_2] 25 (0, 0)) (vb_ BK175.out) hb); have n4_ := Aside0.mk (blk_below (g := gb176) (o := .cells #[.slice none 0 0, .int .u64 0, .int .u64 0] 25 (0, 0)) (vb_ BK176.out) hb); have n5_ := Aside0.mk (below_step (by repeat (first | (with_reducible first | exact HB.out | apply below_alloc | apply pw_below_drewN | apply below_drew1 | refine below_set ?_ GE175.out | refine below_set ?_ GE176.out) | exact HB.out)) hb); clear HO0_0; clear HO2; clear BK175; clear BK176; clear HB; have HO0_0 := n0_; have HO2 := n1_; have HO179 := n2_; have BK175 := n3_; have BK176 := n4_; have HB := n5_; clear n0_ n1_ n2_ n3_ n4_ n5_; clear hb ho7; have hnb8 := NB175_176.out; have hnc8 := NB176_175.out; have hcz9_0 : w6.cell? ⟨gb175, 0, none⟩ = some (.slice A0_0 l0_0.length c0_0) := (blk_cell BK175.out 0).trans rfl; have hcz9_1 : w6.cell? ⟨gb175, 1, none⟩ = some (.int .u64 a0_1) := (blk_cell BK175.out 1).trans rfl; have hcz9_2 : w6.cell? ⟨gb175, 2, none⟩ = some (.int .u64 a0_2) := (blk_cell BK175.out 2).trans rfl; have hfz9_0 := blk_frozen BK175.out 0; have hfz9_1 := blk_frozen BK175.out 1; have hfz9_2 := blk_frozen BK175.out 2))
  go_loopg [7, 16] k (fun kq v7 v16 w' => ∃ (x7_1 : List (S57)) (x16_1 : Int), v16 = .int .i64 x16_1 ∧ Aside0 (demurralref16_With.l0 kq a1 l2 x7_1 l0_0 (l0_0.length : Int) x16_1 l0_0 a0_1 a0_2 = some (r1, r2, r3)) ∧ Aside0 (kq ≤ k) ∧ Aside0 (Kd.V k54 54 w' w.heap.size (fun k_ => ((P0_0_ k_ ∨ P2_ k_) ∨ w.heap.size ≤ k_) ∧ some k_ ≠ (v7 : Value).ownBlock ∧ k_ ≠ gb175 ∧ k_ ≠ gb176) (.slice A2 l2.length c2) l2) ∧ Aside0 (Kd.N k57 57 w' w.heap.size (fun k_ => ((P0_0_ k_ ∨ P2_ k_) ∨ w.heap.size ≤ k_) ∧ k_ ≠ gb175 ∧ k_ ≠ gb176) v7 x7_1) ∧ Aside0 (Kd.V k57 57 w' w.heap.size (fun k_ => ((P0_0_ k_ ∨ P2_ k_) ∨ w.heap.size ≤ k_) ∧ some k_ ≠ (v7 : Value).ownBlock ∧ k_ ≠ gb175 ∧ k_ ≠ gb176) (.slice A0_0 l0_0.length c0_0) l0_0) ∧ Aside0 (Kd.V k57 57 w' w.heap.size (fun k_ => ((P0_0_ k_ ∨ P2_ k_) ∨ w.heap.size ≤ k_) ∧ some k_ ≠ (v7 : Value).ownBlock ∧ k_ ≠ gb175 ∧ k_ ≠ gb176) (.slice A0_0 l0_0.length c0_0) l0_0) ∧ Aside0 (w'.heap[gb175]? = some (.cells #[(.slice A0_0 l0_0.length c0_0), .int .u64 a0_1, .int .u64 a0_2] 25 (0, 0))) ∧ Aside0 (w'.heap[gb176]? = some (.cells #[(.slice none 0 0), .int .u64 0, .int .u64 0] 25 (0, 0))) ∧ Aside0 (Below w.heap.size w w'))
  case atStart => exact ⟨(y177), (0), (by first | rfl | (simp; done) | (simp [*]; done)), H', ⟨Nat.le_refl _⟩, ⟨by (with_reducible repeat (first | apply Kd.V_alloc | apply Kd.V_drewN | apply Kd.V_drew)); exact Kd.V_mono HO2.out (fun _ hk => ⟨hk.1.1.1, ⟨hk.2, ⟨hk.1.1.2, hk.1.2⟩⟩⟩)⟩, ⟨by (with_reducible repeat (first | apply Kd.N_alloc | apply Kd.N_drewN | apply Kd.N_drew)); exact HO179.out⟩, ⟨by (with_reducible repeat (first | apply Kd.V_alloc | apply Kd.V_drewN | apply Kd.V_drew)); exact Kd.V_mono HO0_0.out (fun _ hk => ⟨hk.1.1.1, ⟨hk.2, ⟨hk.1.1.2, hk.1.2⟩⟩⟩)⟩, ⟨by (with_reducible repeat (first | apply Kd.V_alloc | apply Kd.V_drewN | apply Kd.V_drew)); exact Kd.V_mono HO0_0.out (fun _ hk => ⟨hk.1.1.1, ⟨hk.2, ⟨hk.1.1.2, hk.1.2⟩⟩⟩)⟩, ⟨by (with_reducible repeat (first | refine blk_drewN ?_ _ | refine blk_drew ?_ | refine blk_alloc ?_ _)); exact BK175.out⟩, ⟨by (with_reducible repeat (first | refine blk_drewN ?_ _ | refine blk_drew ?_ | refine blk_alloc ?_ _)); exact BK176.out⟩, ⟨by repeat (first | (with_reducible first | exact HB.out | apply below_alloc | apply pw_below_drewN | apply below_drew1 | refine below_set ?_ GE175.out | refine below_set ?_ GE176.out) | exact HB.out)⟩⟩
  case round =>
    clear H'
    try clear c2
    try clear p2
    try clear c8
    try clear hcz9_0
    try clear hcz9_1
    try clear hcz9_2
    try clear hfz9_0
    try clear hfz9_1
    try clear hfz9_2
    obtain ⟨x7_1, x16_1, rfl, HA, HK1, HO_2, HO_7, HO_14, HO_176000, BK175, BK176, HB⟩ := hrel
    cases gk with
    | zero => exact absurd HA.out (by simp [demurralref16_With.l0])
    | succ k1 =>
      have H := HA.out
      clear HA
      simp only [demurralref16_With.l0] at H
      by_cases c10 : x16_1 < (l0_0.length : Int)
      · rw [if_pos c10] at H
        have c10b0 : decide (x16_1 < (l0_0.length : Int)) = true := decide_eq_true c10
        clear c10
        by_cases c11 : 0 ≤ x16_1
        · rw [if_pos c11] at H
          have c11b0 : decide (0 ≤ x16_1) = true := decide_eq_true c11
          clear c11
          by_cases c12 : x16_1 < (l0_0.length : Int)
          · rw [if_pos c12] at H
            have c12b0 : decide (x16_1 < (l0_0.length : Int)) = true := decide_eq_true c12
            clear c12
            by_cases c13 : ((rd_T57 l0_0 x16_1).f0) < a1
            · rw [if_pos c13] at H
              have c13b0 : decide (((rd_T57 l0_0 x16_1).f0) < a1) = true := decide_eq_true c13
              clear c13
              by_cases c14 : x7_1.length < 4398046511104
              · rw [if_pos c14] at H
                have LMc14 := Aside0.mk c14
                clear c14
                obtain ⟨y182, hy182⟩ : ∃ y_ : List (S57), y_ = (x7_1 ++ [(⟨(rd_T57 l0_0 x16_1).f0, (rd_T57 l0_0 x16_1).f1⟩ : S57)]) := ⟨_, rfl⟩
                replace H : (demurralref16_With.l0 k1 a1 l2 y182 l0_0 (l0_0.length : Int) (wrap64 (x16_1 + 1)) l0_0 a0_1 a0_2) = some (r1, r2, r3) := by first | (rw [hy182]; with_reducible exact H) | (have H2_ := (Option.bind_some _ _).symm.trans H; rw [hy182]; with_reducible exact H2_) | (have H2_ := (Option.bind_some _ _).symm.trans H; with_reducible exact H2_) | with_reducible exact H | (rw [hy182]; exact H) | exact H
                have Ny182 := Aside0.mk hy182
                clear hy182
                have H' := Aside0.mk H
                clear H
                have p180 : 0 ≤ (x16_1 : Int) := of_decide_eq_true (by first | (with_reducible assumption) | assumption)
                have q180 : x16_1 < (l0_0.length : Int) := of_decide_eq_true (by first | (with_reducible assumption) | assumption)
                obtain ⟨ad180, A180_1, c180_1, e180, hx180_0, hx180_1, hl180_1, hi180_1⟩ := at_T57 (Kd.V_reads' HO_14.out).2.2 x16_1 p180 q180
                cases e180
                obtain ⟨ce180, hce180, hMe180, hcc180⟩ := Kd.V_get HO_14.out z57 x16_1 p180 (by first | exact q180 | exact of_decide_eq_true (by first | (with_reducible assumption) | assumption) | (have e_ := (Kd.V_reads' HO_14.out).1; omega))
                obtain ⟨ua180_1, uc180_1, rfl, ul180_1, ge180_1⟩ := k57_openF hMe180
                have hv180_1 := hcc180 1 _ rfl
                rw [add_field _ _ 1 (by omega)] at hv180_1
                replace hv180_1 := Option.some.inj (hv180_1.symm.trans hx180_1)
                injection hv180_1 with hva_ hvn_ hvc_
                rw [hva_] at ge180_1
                rw [hvc_] at ul180_1
                have HL180_1 := Aside0.mk (show Kd.V k54 54 _ w.heap.size _ _ ((rd_T57 l0_0 x16_1).f1) from Kd.V_mk ul180_1 ge180_1)
                clear hva_ hvn_ hvc_ ge180_1 ul180_1
                clear hcc180 hce180
                have HR180_1 := Aside0.mk hi180_1
                have HC180_1 := Aside0.mk hl180_1
                clear hi180_1 hl180_1
                replace p180 := eq_true p180
                replace q180 := eq_true q180
                go_wp2_with (first | ((with_reducible refine gate_dst (N := 9) rfl ?_); refine box_event ?hg (N := 9) ?hd (cs := #[.int .u64 0, .slice none 0 0]) (t := 57) ?hr ?_; (case hd => rfl); (case hg => rfl); (case hr => first | (go_simp; done) | (go_simp; rfl)); intro gb181 hg w15 hbox hb; have n0_ := Aside0.mk (Kd.V_below (Kd.V_elderB (kV_ HO_2.out) gb181 (Nat.le_of_eq hg.symm)) hb); have n1_ := Aside0.mk (Kd.N_below (Kd.N_elderB (kN_ HO_7.out) gb181 (Nat.le_of_eq hg.symm)) hb); have n2_ := Aside0.mk (Kd.V_below (Kd.V_elderB (kV_ HO_14.out) gb181 (Nat.le_of_eq hg.symm)) hb); have n3_ := Aside0.mk (Kd.V_below (Kd.V_elderB (kV_ HO_176000.out) gb181 (Nat.le_of_eq hg.symm)) hb); have n4_ := Aside0.mk (Kd.V_below (Kd.V_elderB (kV_ HL180_1.out) gb181 (Nat.le_of_eq hg.symm)) hb); have n5_ := Aside0.mk (blk_below (g := gb175) (o := .cells #[.slice (some ad180) l0_0.length c0_0, .int .u64 a0_1, .int .u64 a0_2] 25 (0, 0)) (vb_ BK175.out) hb); have n6_ := Aside0.mk (blk_below (g := gb176) (o := .cells #[.slice none 0 0, .int .u64 0, .int .u64 0] 25 (0, 0)) (vb_ BK176.out) hb); have n7_ := Aside0.mk (Kd.C_below (by repeat (first | (with_reducible exact HR180_1.out) | (with_reducible refine Kd.C_alloc ?_ _) | (with_reducible refine Kd.C_drewN ?_ _) | (with_reducible refine Kd.C_drew ?_) | exact HR180_1.out)) hb); have n8_ := Aside0.mk (below_step (by repeat (first | (with_reducible first | exact HB.out | apply below_alloc | apply pw_below_drewN | apply below_drew1 | refine below_set ?_ GE175.out | refine below_set ?_ GE176.out) | exact HB.out)) hb); have n9_ := Aside0.mk (hbox); have n10_ := Aside0.mk ((by rw [hg]; exact (below_size (by repeat (first | (with_reducible first | exact HB.out | apply below_alloc | apply pw_below_drewN | apply below_drew1 | refine below_set ?_ GE175.out | refine below_set ?_ GE176.out) | exact HB.out))) : w.heap.size ≤ gb181)); have n11_ := Aside0.mk ((by rw [hg]; exact (below_size (by repeat (first | (with_reducible first | exact HB.out | apply below_alloc | apply pw_below_drewN | apply below_drew1 | refine below_set ?_ GE175.out | refine below_set ?_ GE176.out) | exact HB.out))) : w.heap.size ≤ gb181)); have n12_ := Aside0.mk ((by rw [hg]; exact Nat.ne_of_lt (blk_lt (g := gb175) (o := .cells #[.slice (some ad180) l0_0.length c0_0, .int .u64 a0_1, .int .u64 a0_2] 25 (0, 0)) (vb_ BK175.out)) : gb175 ≠ gb181)); have n13_ := Aside0.mk ((by rw [hg]; exact Nat.ne_of_gt (blk_lt (g := gb175) (o := .cells #[.slice (some ad180) l0_0.length c0_0, .int .u64 a0_1, .int .u64 a0_2] 25 (0, 0)) (vb_ BK175.out)) : gb181 ≠ gb175)); have n14_ := Aside0.mk ((by rw [hg]; exact Nat.ne_of_lt (blk_lt (g := gb176) (o := .cells #[.slice none 0 0, .int .u64 0, .int .u64 0] 25 (0, 0)) (vb_ BK176.out)) : gb176 ≠ gb181)); have n15_ := Aside0.mk ((by rw [hg]; exact Nat.ne_of_gt (blk_lt (g := gb176) (o := .cells #[.slice none 0 0, .int .u64 0, .int .u64 0] 25 (0, 0)) (vb_ BK176.out)) : gb181 ≠ gb176)); clear HO_2; clear HO_7; clear HO_14; clear HO_176000; clear HL180_1; clear BK175; clear BK176; clear HR180_1; clear HB; have HO_2 := n0_; have HO_7 := n1_; have HO_14 := n2_; have HO_176000 := n3_; have HL180_1 := n4_; have BK175 := n5_; have BK176 := n6_; have HR180_1 := n7_; have HB := n8_; have BK181 := n9_; have GW181 := n10_; have GE181 := n11_; have NB175_181 := n12_; have NB181_175 := n13_; have NB176_181 := n14_; have NB181_176 := n15_; clear n0_ n1_ n2_ n3_ n4_ n5_ n6_ n7_ n8_ n9_ n10_ n11_ n12_ n13_ n14_ n15_; clear hb hbox hg; have hnb16 := NB181_175.out; have hnc16 := NB175_181.out; have hnb17 := NB181_176.out; have hnc17 := NB176_181.out; have hcz18_0 : w15.cell? ⟨gb181, 0, none⟩ = some (.int .u64 0) := (blk_cell BK181.out 0).trans rfl; have hcz18_1 : w15.cell? ⟨gb181, 1, none⟩ = some (.slice none 0 0) := (blk_cell BK181.out 1).trans rfl; have hfz18_0 := blk_frozen BK181.out 0; have hfz18_1 := blk_frozen BK181.out 1) | ((with_reducible refine gate_store (t := 57) (p := 9) rfl ?_); refine store_event (t := 57) (p := 9) (v := ?vo_w19) (w1 := ((w15.setCell ⟨gb181, 0, none⟩ (.int .u64 ((rd_T57 l0_0 x16_1).f0))).setCell ⟨gb181, 1, none⟩ (.slice A180_1 ((rd_T57 l0_0 x16_1).f1).length c180_1))) ?hg ?ho ?hn ?hr ?_; (case ho => rfl); (case hg => rfl); (case hn => rfl); (case hr => first | (go_simp; done) | (go_simp; rfl)); intro w19 hw; have n0_ : Aside0 (Kd.V k54 54 w19 w.heap.size (fun k_ => ((P0_0_ k_ ∨ P2_ k_) ∨ w.heap.size ≤ k_) ∧ some k_ ≠ (u7 : Value).ownBlock ∧ k_ ≠ gb175 ∧ k_ ≠ gb176 ∧ k_ ≠ gb181) (.slice A2 l2.length c2) l2) := ⟨(by rw [hw]; exact (by (with_reducible repeat (first | apply Kd.V_alloc | apply Kd.V_drewN | apply Kd.V_drew)); exact Kd.V_mono (Kd.V_far (p := ⟨gb181, 1, none⟩) (Kd.V_far (p := ⟨gb181, 0, none⟩) (Kd.V_mono HO_2.out (fun k_ hk => (⟨hk, hk.2⟩ : _ ∧ k_ ≠ gb181))) (fun _ hk => hk.2) (.int .u64 ((rd_T57 l0_0 x16_1).f0))) (fun _ hk => hk.2) (.slice A180_1 ((rd_T57 l0_0 x16_1).f1).length c180_1)) (fun _ hk => ⟨hk.1.1.1, ⟨hk.1.1.2.1, ⟨hk.1.1.2.2.1, ⟨hk.1.1.2.2.2, hk.1.2⟩⟩⟩⟩)))⟩; have n1_ : Aside0 (Kd.N k57 57 w19 w.heap.size (fun k_ => ((P0_0_ k_ ∨ P2_ k_) ∨ w.heap.size ≤ k_) ∧ k_ ≠ gb175 ∧ k_ ≠ gb176 ∧ k_ ≠ gb181) u7 x7_1) := ⟨(by rw [hw]; exact (by (with_reducible repeat (first | apply Kd.N_alloc | apply Kd.N_drewN | apply Kd.N_drew)); exact Kd.N_mono (Kd.N_far (p := ⟨gb181, 1, none⟩) (Kd.N_far (p := ⟨gb181, 0, none⟩) (Kd.N_mono HO_7.out (fun k_ hk => (⟨hk, hk.2⟩ : _ ∧ k_ ≠ gb181))) (fun _ hk => hk.2) (.int .u64 ((rd_T57 l0_0 x16_1).f0))) (fun _ hk => hk.2) (.slice A180_1 ((rd_T57 l0_0 x16_1).f1).length c180_1)) (fun _ hk => ⟨hk.1.1.1, ⟨hk.1.1.2.1, ⟨hk.1.1.2.2, hk.1.2⟩⟩⟩)))⟩; have n2_ : Aside0 (Kd.V k57 57 w19 w.heap.size (fun k_ => ((P0_0_ k_ ∨ P2_ k_) ∨ w.heap.size ≤ k_) ∧ some k_ ≠ (u7 : Value).ownBlock ∧ k_ ≠ gb175 ∧ k_ ≠ gb176 ∧ k_ ≠ gb181) (.slice (some ad180) l0_0.length c0_0) l0_0) := ⟨(by rw [hw]; exact (by (with_reducible repeat (first | apply Kd.V_alloc | apply Kd.V_drewN | apply Kd.V_drew)); exact Kd.V_mono (Kd.V_far (p := ⟨gb181, 1, none⟩) (Kd.V_far (p := ⟨gb181, 0, none⟩) (Kd.V_mono HO_14.out (fun k_ hk => (⟨hk, hk.2⟩ : _ ∧ k_ ≠ gb181))) (fun _ hk => hk.2) (.int .u64 ((rd_T57 l0_0 x16_1).f0))) (fun _ hk => hk.2) (.slice A180_1 ((rd_T57 l0_0 x16_1).f1).length c180_1)) (fun _ hk => ⟨hk.1.1.1, ⟨hk.1.1.2.1, ⟨hk.1.1.2.2.1, ⟨hk.1.1.2.2.2, hk.1.2⟩⟩⟩⟩)))⟩; have n3_ : Aside0 (Kd.V k57 57 w19 w.heap.size (fun k_ => ((P0_0_ k_ ∨ P2_ k_) ∨ w.heap.size ≤ k_) ∧ some k_ ≠ (u7 : Value).ownBlock ∧ k_ ≠ gb175 ∧ k_ ≠ gb176 ∧ k_ ≠ gb181) (.slice (some ad180) l0_0.length c0_0) l0_0) := ⟨(by rw [hw]; exact (by (with_reducible repeat (first | apply Kd.V_alloc | apply Kd.V_drewN | apply Kd.V_drew)); exact Kd.V_mono (Kd.V_far (p := ⟨gb181, 1, none⟩) (Kd.V_far (p := ⟨gb181, 0, none⟩) (Kd.V_mono HO_176000.out (fun k_ hk => (⟨hk, hk.2⟩ : _ ∧ k_ ≠ gb181))) (fun _ hk => hk.2) (.int .u64 ((rd_T57 l0_0 x16_1).f0))) (fun _ hk => hk.2) (.slice A180_1 ((rd_T57 l0_0 x16_1).f1).length c180_1)) (fun _ hk => ⟨hk.1.1.1, ⟨hk.1.1.2.1, ⟨hk.1.1.2.2.1, ⟨hk.1.1.2.2.2, hk.1.2⟩⟩⟩⟩)))⟩; have n4_ : Aside0 (Kd.V k54 54 w19 w.heap.size (fun k_ => ((P0_0_ k_ ∨ P2_ k_) ∨ w.heap.size ≤ k_) ∧ some k_ ≠ (u7 : Value).ownBlock ∧ k_ ≠ gb175 ∧ k_ ≠ gb176 ∧ k_ ≠ gb181) (.slice A180_1 ((rd_T57 l0_0 x16_1).f1).length c180_1) ((rd_T57 l0_0 x16_1).f1)) := ⟨(by rw [hw]; exact (by (with_reducible repeat (first | apply Kd.V_alloc | apply Kd.V_drewN | apply Kd.V_drew)); exact Kd.V_mono (Kd.V_far (p := ⟨gb181, 1, none⟩) (Kd.V_far (p := ⟨gb181, 0, none⟩) (Kd.V_mono HL180_1.out (fun k_ hk => (⟨hk, hk.2⟩ : _ ∧ k_ ≠ gb181))) (fun _ hk => hk.2) (.int .u64 ((rd_T57 l0_0 x16_1).f0))) (fun _ hk => hk.2) (.slice A180_1 ((rd_T57 l0_0 x16_1).f1).length c180_1)) (fun _ hk => ⟨hk.1.1.1, ⟨hk.1.1.2.1, ⟨hk.1.1.2.2.1, ⟨hk.1.1.2.2.2, hk.1.2⟩⟩⟩⟩)))⟩; have n5_ : Aside0 (w19.heap[gb175]? = some (.cells #[.slice (some ad180) l0_0.length c0_0, .int .u64 a0_1, .int .u64 a0_2] 25 (0, 0))) := ⟨(by rw [hw]; exact (by (with_reducible repeat (first | refine blk_drewN ?_ _ | refine blk_drew ?_ | refine blk_alloc ?_ _)); refine blk_far ?_ NB175_181.out _; (with_reducible repeat (first | refine blk_drewN ?_ _ | refine blk_drew ?_ | refine blk_alloc ?_ _)); refine blk_far ?_ NB175_181.out _; (with_reducible repeat (first | refine blk_drewN ?_ _ | refine blk_drew ?_ | refine blk_alloc ?_ _)); exact BK175.out))⟩; have n6_ : Aside0 (w19.heap[gb176]? = some (.cells #[.slice none 0 0, .int .u64 0, .int .u64 0] 25 (0, 0))) := ⟨(by rw [hw]; exact (by (with_reducible repeat (first | refine blk_drewN ?_ _ | refine blk_drew ?_ | refine blk_alloc ?_ _)); refine blk_far ?_ NB176_181.out _; (with_reducible repeat (first | refine blk_drewN ?_ _ | refine blk_drew ?_ | refine blk_alloc ?_ _)); refine blk_far ?_ NB176_181.out _; (with_reducible repeat (first | refine blk_drewN ?_ _ | refine blk_drew ?_ | refine blk_alloc ?_ _)); exact BK176.out))⟩; have n7_ : Aside0 (w19.heap[gb181]? = some (.cells #[.int .u64 ((rd_T57 l0_0 x16_1).f0), .slice A180_1 ((rd_T57 l0_0 x16_1).f1).length c180_1] 57 (0, 0))) := ⟨(by rw [hw]; exact (by (with_reducible repeat (first | refine blk_drewN ?_ _ | refine blk_drew ?_ | refine blk_alloc ?_ _)); refine blk_put (cs := #[.int .u64 ((rd_T57 l0_0 x16_1).f0), .slice none 0 0]) ?_ 1 _ rfl; (with_reducible repeat (first | refine blk_drewN ?_ _ | refine blk_drew ?_ | refine blk_alloc ?_ _)); refine blk_put (cs := #[.int .u64 0, .slice none 0 0]) ?_ 0 _ rfl; (with_reducible repeat (first | refine blk_drewN ?_ _ | refine blk_drew ?_ | refine blk_alloc ?_ _)); exact BK181.out))⟩; have n8_ : Aside0 (Below w.heap.size w w19) := ⟨(by rw [hw]; exact (by repeat (first | (with_reducible first | exact HB.out | apply below_alloc | apply pw_below_drewN | apply below_drew1 | refine below_set ?_ GE175.out | refine below_set ?_ GE176.out | refine below_set ?_ GE181.out) | exact HB.out)))⟩; clear hw; clear HO_2; clear HO_7; clear HO_14; clear HO_176000; clear HL180_1; clear BK175; clear BK176; clear BK181; clear HB; have HO_2 := n0_; have HO_7 := n1_; have HO_14 := n2_; have HO_176000 := n3_; have HL180_1 := n4_; have BK175 := n5_; have BK176 := n6_; have BK181 := n7_; have HB := n8_; clear n0_ n1_ n2_ n3_ n4_ n5_ n6_ n7_ n8_; have hcz20_0 : w19.cell? ⟨gb181, 0, none⟩ = some (.int .u64 ((rd_T57 l0_0 x16_1).f0)) := (blk_cell BK181.out 0).trans rfl; have hcz20_1 : w19.cell? ⟨gb181, 1, none⟩ = some (.slice A180_1 ((rd_T57 l0_0 x16_1).f1).length c180_1) := (blk_cell BK181.out 1).trans rfl; have hfz20_0 := blk_frozen BK181.out 0; have hfz20_1 := blk_frozen BK181.out 1) | ((with_reducible refine gate_builtin (b := .append) (xs := #[.tmp 24, .tmp 26]) rfl ?_); at_builtin; refine Kd.N_append k57 (w0 := w) w.heap.size rfl (.tmp 24) (.tmp 26) 22 57 (.agg #[(.int .u64 0), (.slice none 0 0)]) 32 rfl Try.underlying22 info57 rfl (by decide) (by omega) u7 x7_1 (⟨(rd_T57 l0_0 x16_1).f0, (rd_T57 l0_0 x16_1).f1⟩ : S57) [.int .u64 ((rd_T57 l0_0 x16_1).f0), .slice A180_1 ((rd_T57 l0_0 x16_1).f1).length c180_1] (fun k_ => ((P0_0_ k_ ∨ P2_ k_) ∨ w.heap.size ≤ k_) ∧ k_ ≠ gb175 ∧ k_ ≠ gb176 ∧ k_ ≠ gb181) (fun k_ => ((fun k_ => ((P0_0_ k_ ∨ P2_ k_) ∨ w.heap.size ≤ k_) ∧ k_ ≠ gb175 ∧ k_ ≠ gb176 ∧ k_ ≠ gb181)) k_ ∧ some k_ ≠ (u7 : Value).ownBlock) rfl rfl ?aP (fun _ hk => hk) ?aF ?aO ?aB ?aS ?aL ?_; (case aP => exact (k57_mkF _ _ (⟨(rd_T57 l0_0 x16_1).f0, (rd_T57 l0_0 x16_1).f1⟩ : S57) (Kd.V_reads' (Kd.V_mono (ok' := (fun k_ => ((fun k_ => ((P0_0_ k_ ∨ P2_ k_) ∨ w.heap.size ≤ k_) ∧ k_ ≠ gb175 ∧ k_ ≠ gb176 ∧ k_ ≠ gb181)) k_ ∧ some k_ ≠ (u7 : Value).ownBlock)) (HL180_1.out) (fun k_ hk => ⟨⟨hk.1, ⟨hk.2.2.1, ⟨hk.2.2.2.1, hk.2.2.2.2⟩⟩⟩, hk.2.1⟩))).2.1 (Kd.V_F (Kd.V_mono (ok' := (fun k_ => ((fun k_ => ((P0_0_ k_ ∨ P2_ k_) ∨ w.heap.size ≤ k_) ∧ k_ ≠ gb175 ∧ k_ ≠ gb176 ∧ k_ ≠ gb181)) k_ ∧ some k_ ≠ (u7 : Value).ownBlock)) (HL180_1.out) (fun k_ hk => ⟨⟨hk.1, ⟨hk.2.2.1, ⟨hk.2.2.2.1, hk.2.2.2.2⟩⟩⟩, hk.2.1⟩))))); (case aB => exact (by repeat (first | (with_reducible first | exact HB.out | apply below_alloc | apply pw_below_drewN | apply below_drew1 | refine below_set ?_ GE175.out | refine below_set ?_ GE176.out | refine below_set ?_ GE181.out) | exact HB.out))); (case aF => exact (fun k_ hk => ⟨(.inr (Nat.le_trans (below_size (by repeat (first | (with_reducible first | exact HB.out | apply below_alloc | apply pw_below_drewN | apply below_drew1 | refine below_set ?_ GE175.out | refine below_set ?_ GE176.out | refine below_set ?_ GE181.out) | exact HB.out))) hk)), Kd.freshB (g := gb175) (o := .cells #[.slice (some ad180) l0_0.length c0_0, .int .u64 a0_1, .int .u64 a0_2] 25 (0, 0)) (vb_ BK175.out) k_ hk, Kd.freshB (g := gb176) (o := .cells #[.slice none 0 0, .int .u64 0, .int .u64 0] 25 (0, 0)) (vb_ BK176.out) k_ hk, Kd.freshB (g := gb181) (o := .cells #[.int .u64 ((rd_T57 l0_0 x16_1).f0), .slice A180_1 ((rd_T57 l0_0 x16_1).f1).length c180_1] 57 (0, 0)) (vb_ BK181.out) k_ hk⟩)); (case aO => exact (kN_ HO_7.out)); (case aS => exact (below_size (by repeat (first | (with_reducible first | exact HB.out | apply below_alloc | apply pw_below_drewN | apply below_drew1 | refine below_set ?_ GE175.out | refine below_set ?_ GE176.out | refine below_set ?_ GE181.out) | exact HB.out)))); (case aL => have := LMc14.out; omega); intro v183 w21 ho hb hg hat; rw [← Ny182.out] at ho; have n0_ := Aside0.mk (Kd.V_afterv (ok := (fun k_ => ((P0_0_ k_ ∨ P2_ k_) ∨ w.heap.size ≤ k_) ∧ k_ ≠ gb175 ∧ k_ ≠ gb176 ∧ k_ ≠ gb181)) (by (with_reducible repeat (first | apply Kd.V_alloc | apply Kd.V_drewN | apply Kd.V_drew)); exact Kd.V_mono HO_2.out (fun _ hk => ⟨⟨hk.1, ⟨hk.2.2.1, ⟨hk.2.2.2.1, hk.2.2.2.2⟩⟩⟩, hk.2.1⟩)) hg hat); have n1_ := Aside0.mk (Kd.V_afterv (ok := (fun k_ => ((P0_0_ k_ ∨ P2_ k_) ∨ w.heap.size ≤ k_) ∧ k_ ≠ gb175 ∧ k_ ≠ gb176 ∧ k_ ≠ gb181)) (by (with_reducible repeat (first | apply Kd.V_alloc | apply Kd.V_drewN | apply Kd.V_drew)); exact Kd.V_mono HO_14.out (fun _ hk => ⟨⟨hk.1, ⟨hk.2.2.1, ⟨hk.2.2.2.1, hk.2.2.2.2⟩⟩⟩, hk.2.1⟩)) hg hat); have n2_ := Aside0.mk (Kd.V_afterv (ok := (fun k_ => ((P0_0_ k_ ∨ P2_ k_) ∨ w.heap.size ≤ k_) ∧ k_ ≠ gb175 ∧ k_ ≠ gb176 ∧ k_ ≠ gb181)) (by (with_reducible repeat (first | apply Kd.V_alloc | apply Kd.V_drewN | apply Kd.V_drew)); exact Kd.V_mono HO_176000.out (fun _ hk => ⟨⟨hk.1, ⟨hk.2.2.1, ⟨hk.2.2.2.1, hk.2.2.2.2⟩⟩⟩, hk.2.1⟩)) hg hat); have n3_ := Aside0.mk (blk_grown (g := gb175) (o := .cells #[.slice (some ad180) l0_0.length c0_0, .int .u64 a0_1, .int .u64 a0_2] 25 (0, 0)) (vb_ BK175.out) hg (Kd.N_ne HO_7.out BK175.out (by decide))); have n4_ := Aside0.mk (blk_grown (g := gb176) (o := .cells #[.slice none 0 0, .int .u64 0, .int .u64 0] 25 (0, 0)) (vb_ BK176.out) hg (Kd.N_ne HO_7.out BK176.out (by decide))); have n5_ := Aside0.mk (Kd.V_afterv (ok := (fun k_ => ((P0_0_ k_ ∨ P2_ k_) ∨ w.heap.size ≤ k_) ∧ k_ ≠ gb175 ∧ k_ ≠ gb176 ∧ k_ ≠ gb181)) (by (with_reducible repeat (first | apply Kd.V_alloc | apply Kd.V_drewN | apply Kd.V_drew)); exact Kd.V_mono HL180_1.out (fun _ hk => ⟨⟨hk.1, ⟨hk.2.2.1, ⟨hk.2.2.2.1, hk.2.2.2.2⟩⟩⟩, hk.2.1⟩)) hg hat); have n6_ := Aside0.mk (blk_grown (g := gb181) (o := .cells #[.int .u64 ((rd_T57 l0_0 x16_1).f0), .slice A180_1 ((rd_T57 l0_0 x16_1).f1).length c180_1] 57 (0, 0)) (vb_ BK181.out) hg (Kd.N_away HO_7.out (fun _ hk => hk.2.2.2))); have n7_ := Aside0.mk (hb); have n8_ := Aside0.mk (ho); clear HO_2; clear HO_14; clear HO_176000; clear BK175; clear BK176; clear HL180_1; clear BK181; clear HB; clear HO_7; have HO_2 := n0_; have HO_14 := n1_; have HO_176000 := n2_; have BK175 := n3_; have BK176 := n4_; have HL180_1 := n5_; have BK181 := n6_; have HB := n7_; have HO184 := n8_; clear n0_ n1_ n2_ n3_ n4_ n5_ n6_ n7_ n8_; clear ho hb hg hat))
                go_roundg k1
                case measure => have := HK1.out; omega
                case rel => exact ⟨(y182), (wrap64 (x16_1 + 1)), (by first | rfl | (simp; done) | (simp [*]; done)), H', ⟨by have := HK1.out; omega⟩, ⟨by (with_reducible repeat (first | apply Kd.V_alloc | apply Kd.V_drewN | apply Kd.V_drew)); exact Kd.V_mono HO_2.out (fun _ hk => ⟨hk.1.1, ⟨hk.2, ⟨hk.1.2.1, hk.1.2.2.1⟩⟩⟩)⟩, ⟨by (with_reducible repeat (first | apply Kd.N_alloc | apply Kd.N_drewN | apply Kd.N_drew)); exact Kd.N_mono HO184.out (fun _ hk => ⟨hk.1, ⟨hk.2.1, hk.2.2.1⟩⟩)⟩, ⟨by (with_reducible repeat (first | apply Kd.V_alloc | apply Kd.V_drewN | apply Kd.V_drew)); exact Kd.V_mono HO_14.out (fun _ hk => ⟨hk.1.1, ⟨hk.2, ⟨hk.1.2.1, hk.1.2.2.1⟩⟩⟩)⟩, ⟨by (with_reducible repeat (first | apply Kd.V_alloc | apply Kd.V_drewN | apply Kd.V_drew)); exact Kd.V_mono HO_176000.out (fun _ hk => ⟨hk.1.1, ⟨hk.2, ⟨hk.1.2.1, hk.1.2.2.1⟩⟩⟩)⟩, ⟨by (with_reducible repeat (first | refine blk_drewN ?_ _ | refine blk_drew ?_ | refine blk_alloc ?_ _)); exact BK175.out⟩, ⟨by (with_reducible repeat (first | refine blk_drewN ?_ _ | refine blk_drew ?_ | refine blk_alloc ?_ _)); exact BK176.out⟩, ⟨by repeat (first | (with_reducible first | exact HB.out | apply below_alloc | apply pw_below_drewN | apply below_drew1 | refine below_set ?_ GE175.out | refine below_set ?_ GE176.out | refine below_set ?_ GE181.out) | exact HB.out)⟩⟩
              · rw [if_neg c14] at H
                exact absurd H (by simp)
            · rw [if_neg c13] at H
              have c13b0 : decide (((rd_T57 l0_0 x16_1).f0) < a1) = false := decide_eq_false c13
              clear c13
              have H' := Aside0.mk H
              clear H
              have p180 : 0 ≤ (x16_1 : Int) := of_decide_eq_true (by first | (with_reducible assumption) | assumption)
              have q180 : x16_1 < (l0_0.length : Int) := of_decide_eq_true (by first | (with_reducible assumption) | assumption)
              obtain ⟨ad180, A180_1, c180_1, e180, hx180_0, hx180_1, hl180_1, hi180_1⟩ := at_T57 (Kd.V_reads' HO_14.out).2.2 x16_1 p180 q180
              cases e180
              obtain ⟨ce180, hce180, hMe180, hcc180⟩ := Kd.V_get HO_14.out z57 x16_1 p180 (by first | exact q180 | exact of_decide_eq_true (by first | (with_reducible assumption) | assumption) | (have e_ := (Kd.V_reads' HO_14.out).1; omega))
              obtain ⟨ua180_1, uc180_1, rfl, ul180_1, ge180_1⟩ := k57_openF hMe180
              have hv180_1 := hcc180 1 _ rfl
              rw [add_field _ _ 1 (by omega)] at hv180_1
              replace hv180_1 := Option.some.inj (hv180_1.symm.trans hx180_1)
              injection hv180_1 with hva_ hvn_ hvc_
              rw [hva_] at ge180_1
              rw [hvc_] at ul180_1
              have HL180_1 := Aside0.mk (show Kd.V k54 54 _ w.heap.size _ _ ((rd_T57 l0_0 x16_1).f1) from Kd.V_mk ul180_1 ge180_1)
              clear hva_ hvn_ hvc_ ge180_1 ul180_1
              clear hcc180 hce180
              have HR180_1 := Aside0.mk hi180_1
              have HC180_1 := Aside0.mk hl180_1
              clear hi180_1 hl180_1
              replace p180 := eq_true p180
              replace q180 := eq_true q180
              go_wp2_with (first | ((with_reducible refine gate_dst (N := 9) rfl ?_); refine box_event ?hg (N := 9) ?hd (cs := #[.int .u64 0, .slice none 0 0]) (t := 57) ?hr ?_; (case hd => rfl); (case hg => rfl); (case hr => first | (go_simp; done) | (go_simp; rfl)); intro gb181 hg w22 hbox hb; have n0_ := Aside0.mk (Kd.V_below (Kd.V_elderB (kV_ HO_2.out) gb181 (Nat.le_of_eq hg.symm)) hb); have n1_ := Aside0.mk (Kd.N_below (Kd.N_elderB (kN_ HO_7.out) gb181 (Nat.le_of_eq hg.symm)) hb); have n2_ := Aside0.mk (Kd.V_below (Kd.V_elderB (kV_ HO_14.out) gb181 (Nat.le_of_eq hg.symm)) hb); have n3_ := Aside0.mk (Kd.V_below (Kd.V_elderB (kV_ HO_176000.out) gb181 (Nat.le_of_eq hg.symm)) hb); have n4_ := Aside0.mk (Kd.V_below (Kd.V_elderB (kV_ HL180_1.out) gb181 (Nat.le_of_eq hg.symm)) hb); have n5_ := Aside0.mk (blk_below (g := gb175) (o := .cells #[.slice (some ad180) l0_0.length c0_0, .int .u64 a0_1, .int .u64 a0_2] 25 (0, 0)) (vb_ BK175.out) hb); have n6_ := Aside0.mk (blk_below (g := gb176) (o := .cells #[.slice none 0 0, .int .u64 0, .int .u64 0] 25 (0, 0)) (vb_ BK176.out) hb); have n7_ := Aside0.mk (Kd.C_below (by repeat (first | (with_reducible exact HR180_1.out) | (with_reducible refine Kd.C_alloc ?_ _) | (with_reducible refine Kd.C_drewN ?_ _) | (with_reducible refine Kd.C_drew ?_) | exact HR180_1.out)) hb); have n8_ := Aside0.mk (below_step (by repeat (first | (with_reducible first | exact HB.out | apply below_alloc | apply pw_below_drewN | apply below_drew1 | refine below_set ?_ GE175.out | refine below_set ?_ GE176.out) | exact HB.out)) hb); have n9_ := Aside0.mk (hbox); have n10_ := Aside0.mk ((by rw [hg]; exact (below_size (by repeat (first | (with_reducible first | exact HB.out | apply below_alloc | apply pw_below_drewN | apply below_drew1 | refine below_set ?_ GE175.out | refine below_set ?_ GE176.out) | exact HB.out))) : w.heap.size ≤ gb181)); have n11_ := Aside0.mk ((by rw [hg]; exact (below_size (by repeat (first | (with_reducible first | exact HB.out | apply below_alloc | apply pw_below_drewN | apply below_drew1 | refine below_set ?_ GE175.out | refine below_set ?_ GE176.out) | exact HB.out))) : w.heap.size ≤ gb181)); have n12_ := Aside0.mk ((by rw [hg]; exact Nat.ne_of_lt (blk_lt (g := gb175) (o := .cells #[.slice (some ad180) l0_0.length c0_0, .int .u64 a0_1, .int .u64 a0_2] 25 (0, 0)) (vb_ BK175.out)) : gb175 ≠ gb181)); have n13_ := Aside0.mk ((by rw [hg]; exact Nat.ne_of_gt (blk_lt (g := gb175) (o := .cells #[.slice (some ad180) l0_0.length c0_0, .int .u64 a0_1, .int .u64 a0_2] 25 (0, 0)) (vb_ BK175.out)) : gb181 ≠ gb175)); have n14_ := Aside0.mk ((by rw [hg]; exact Nat.ne_of_lt (blk_lt (g := gb176) (o := .cells #[.slice none 0 0, .int .u64 0, .int .u64 0] 25 (0, 0)) (vb_ BK176.out)) : gb176 ≠ gb181)); have n15_ := Aside0.mk ((by rw [hg]; exact Nat.ne_of_gt (blk_lt (g := gb176) (o := .cells #[.slice none 0 0, .int .u64 0, .int .u64 0] 25 (0, 0)) (vb_ BK176.out)) : gb181 ≠ gb176)); clear HO_2; clear HO_7; clear HO_14; clear HO_176000; clear HL180_1; clear BK175; clear BK176; clear HR180_1; clear HB; have HO_2 := n0_; have HO_7 := n1_; have HO_14 := n2_; have HO_176000 := n3_; have HL180_1 := n4_; have BK175 := n5_; have BK176 := n6_; have HR180_1 := n7_; have HB := n8_; have BK181 := n9_; have GW181 := n10_; have GE181 := n11_; have NB175_181 := n12_; have NB181_175 := n13_; have NB176_181 := n14_; have NB181_176 := n15_; clear n0_ n1_ n2_ n3_ n4_ n5_ n6_ n7_ n8_ n9_ n10_ n11_ n12_ n13_ n14_ n15_; clear hb hbox hg; have hnb23 := NB181_175.out; have hnc23 := NB175_181.out; have hnb24 := NB181_176.out; have hnc24 := NB176_181.out; have hcz25_0 : w22.cell? ⟨gb181, 0, none⟩ = some (.int .u64 0) := (blk_cell BK181.out 0).trans rfl; have hcz25_1 : w22.cell? ⟨gb181, 1, none⟩ = some (.slice none 0 0) := (blk_cell BK181.out 1).trans rfl; have hfz25_0 := blk_frozen BK181.out 0; have hfz25_1 := blk_frozen BK181.out 1))
              go_roundg k1
              case measure => have := HK1.out; omega
              case rel => exact ⟨(x7_1), (wrap64 (x16_1 + 1)), (by first | rfl | (simp; done) | (simp [*]; done)), H', ⟨by have := HK1.out; omega⟩, ⟨by (with_reducible repeat (first | apply Kd.V_alloc | apply Kd.V_drewN | apply Kd.V_drew)); exact Kd.V_mono (Kd.V_far (p := ⟨gb181, 1, none⟩) (Kd.V_far (p := ⟨gb181, 0, none⟩) (Kd.V_mono HO_2.out (fun k_ hk => (⟨hk, hk.2⟩ : _ ∧ k_ ≠ gb181))) (fun _ hk => hk.2) (.int .u64 ((rd_T57 l0_0 x16_1).f0))) (fun _ hk => hk.2) (.slice A180_1 ((rd_T57 l0_0 x16_1).f1).length c180_1)) (fun _ hk => ⟨hk.1.1.1, ⟨hk.1.1.2.1, ⟨hk.1.1.2.2.1, hk.1.1.2.2.2⟩⟩⟩)⟩, ⟨by (with_reducible repeat (first | apply Kd.N_alloc | apply Kd.N_drewN | apply Kd.N_drew)); exact Kd.N_mono (Kd.N_far (p := ⟨gb181, 1, none⟩) (Kd.N_far (p := ⟨gb181, 0, none⟩) (Kd.N_mono HO_7.out (fun k_ hk => (⟨hk, hk.2⟩ : _ ∧ k_ ≠ gb181))) (fun _ hk => hk.2) (.int .u64 ((rd_T57 l0_0 x16_1).f0))) (fun _ hk => hk.2) (.slice A180_1 ((rd_T57 l0_0 x16_1).f1).length c180_1)) (fun _ hk => ⟨hk.1.1.1, ⟨hk.1.1.2.1, hk.1.1.2.2⟩⟩)⟩, ⟨by (with_reducible repeat (first | apply Kd.V_alloc | apply Kd.V_drewN | apply Kd.V_drew)); exact Kd.V_mono (Kd.V_far (p := ⟨gb181, 1, none⟩) (Kd.V_far (p := ⟨gb181, 0, none⟩) (Kd.V_mono HO_14.out (fun k_ hk => (⟨hk, hk.2⟩ : _ ∧ k_ ≠ gb181))) (fun _ hk => hk.2) (.int .u64 ((rd_T57 l0_0 x16_1).f0))) (fun _ hk => hk.2) (.slice A180_1 ((rd_T57 l0_0 x16_1).f1).length c180_1)) (fun _ hk => ⟨hk.1.1.1, ⟨hk.1.1.2.1, ⟨hk.1.1.2.2.1, hk.1.1.2.2.2⟩⟩⟩)⟩, ⟨by (with_reducible repeat (first | apply Kd.V_alloc | apply Kd.V_drewN | apply Kd.V_drew)); exact Kd.V_mono (Kd.V_far (p := ⟨gb181, 1, none⟩) (Kd.V_far (p := ⟨gb181, 0, none⟩) (Kd.V_mono HO_176000.out (fun k_ hk => (⟨hk, hk.2⟩ : _ ∧ k_ ≠ gb181))) (fun _ hk => hk.2) (.int .u64 ((rd_T57 l0_0 x16_1).f0))) (fun _ hk => hk.2) (.slice A180_1 ((rd_T57 l0_0 x16_1).f1).length c180_1)) (fun _ hk => ⟨hk.1.1.1, ⟨hk.1.1.2.1, ⟨hk.1.1.2.2.1, hk.1.1.2.2.2⟩⟩⟩)⟩, ⟨by (with_reducible repeat (first | refine blk_drewN ?_ _ | refine blk_drew ?_ | refine blk_alloc ?_ _)); refine blk_far ?_ NB175_181.out _; (with_reducible repeat (first | refine blk_drewN ?_ _ | refine blk_drew ?_ | refine blk_alloc ?_ _)); refine blk_far ?_ NB175_181.out _; (with_reducible repeat (first | refine blk_drewN ?_ _ | refine blk_drew ?_ | refine blk_alloc ?_ _)); exact BK175.out⟩, ⟨by (with_reducible repeat (first | refine blk_drewN ?_ _ | refine blk_drew ?_ | refine blk_alloc ?_ _)); refine blk_far ?_ NB176_181.out _; (with_reducible repeat (first | refine blk_drewN ?_ _ | refine blk_drew ?_ | refine blk_alloc ?_ _)); refine blk_far ?_ NB176_181.out _; (with_reducible repeat (first | refine blk_drewN ?_ _ | refine blk_drew ?_ | refine blk_alloc ?_ _)); exact BK176.out⟩, ⟨by repeat (first | (with_reducible first | exact HB.out | apply below_alloc | apply pw_below_drewN | apply below_drew1 | refine below_set ?_ GE175.out | refine below_set ?_ GE176.out | refine below_set ?_ GE181.out) | exact HB.out)⟩⟩
          · rw [if_neg c12] at H
            exact absurd H (by simp)
        · rw [if_neg c11] at H
          exact absurd H (by simp)
      · rw [if_neg c10] at H
        have c10b0 : decide (x16_1 < (l0_0.length : Int)) = false := decide_eq_false c10
        clear c10
        have HC26 := Aside0.mk H
        clear H
        go_upto_if 31 with (fail)
        go_cut [7] (fun v7 wc => ∃ (kq : Nat) (x7_25 : List (S57)), Aside0 (demurralref16_With.j1 kq a1 x7_25 l0_0 a0_1 a0_2 = some (r1, r2, r3)) ∧ Aside0 (kq ≤ k1) ∧ Aside0 (Kd.N k57 57 wc w.heap.size (fun k_ => ((P0_0_ k_ ∨ P2_ k_) ∨ w.heap.size ≤ k_) ∧ k_ ≠ gb175 ∧ k_ ≠ gb176) v7 x7_25) ∧ Aside0 (Kd.V k57 57 wc w.heap.size (fun k_ => ((P0_0_ k_ ∨ P2_ k_) ∨ w.heap.size ≤ k_) ∧ some k_ ≠ (v7 : Value).ownBlock ∧ k_ ≠ gb175 ∧ k_ ≠ gb176) (.slice A0_0 l0_0.length c0_0) l0_0) ∧ Aside0 (wc.heap[gb175]? = some (.cells #[(.slice A0_0 l0_0.length c0_0), .int .u64 a0_1, .int .u64 a0_2] 25 (0, 0))) ∧ Aside0 (wc.heap[gb176]? = some (.cells #[(.slice none 0 0), .int .u64 0, .int .u64 0] 25 (0, 0))) ∧ Aside0 (Below w.heap.size w wc))
        case first =>
          have H := HC26.out
          clear HC26
          by_cases c27 : (l2.length : Int) > 0
          · rw [if_pos c27] at H
            have c27b0 : decide (0 < (l2.length : Int)) = true := decide_eq_true c27
            have c27b1 : decide (0 < l2.length) = true := decide_eq_true (by omega)
            clear c27
            (first | rw [c27b0] | rw [c27b1] | (simp only [i64_w, i32_w]; rw [c27b0]) | skip)
            by_cases c28 : x7_1.length < 4398046511104
            · rw [if_pos c28] at H
              have LMc28 := Aside0.mk c28
              clear c28
              obtain ⟨y185, hy185⟩ : ∃ y_ : List (S57), y_ = (x7_1 ++ [(⟨a1, l2⟩ : S57)]) := ⟨_, rfl⟩
              replace H : (demurralref16_With.j1 k1 a1 y185 l0_0 a0_1 a0_2) = some (r1, r2, r3) := by first | (rw [hy185]; with_reducible exact H) | (have H2_ := (Option.bind_some _ _).symm.trans H; rw [hy185]; with_reducible exact H2_) | (have H2_ := (Option.bind_some _ _).symm.trans H; with_reducible exact H2_) | with_reducible exact H | (rw [hy185]; exact H) | exact H
              have Ny185 := Aside0.mk hy185
              clear hy185
              have H' := Aside0.mk H
              clear H
              go_wp2_with (first | ((with_reducible refine gate_builtin (b := .append) (xs := #[.tmp 32, .tmp 36]) rfl ?_); at_builtin; refine Kd.N_append k57 (w0 := w) w.heap.size rfl (.tmp 32) (.tmp 36) 22 57 (.agg #[(.int .u64 0), (.slice none 0 0)]) 32 rfl Try.underlying22 info57 rfl (by decide) (by omega) u7 x7_1 (⟨a1, l2⟩ : S57) [.int .u64 a1, .slice A2 l2.length c2] (fun k_ => ((P0_0_ k_ ∨ P2_ k_) ∨ w.heap.size ≤ k_) ∧ k_ ≠ gb175 ∧ k_ ≠ gb176) (fun k_ => ((fun k_ => ((P0_0_ k_ ∨ P2_ k_) ∨ w.heap.size ≤ k_) ∧ k_ ≠ gb175 ∧ k_ ≠ gb176)) k_ ∧ some k_ ≠ (u7 : Value).ownBlock) rfl rfl ?aP (fun _ hk => hk) ?aF ?aO ?aB ?aS ?aL ?_; (case aP => exact (k57_mkF _ _ (⟨a1, l2⟩ : S57) (Kd.V_reads' (Kd.V_mono (ok' := (fun k_ => ((fun k_ => ((P0_0_ k_ ∨ P2_ k_) ∨ w.heap.size ≤ k_) ∧ k_ ≠ gb175 ∧ k_ ≠ gb176)) k_ ∧ some k_ ≠ (u7 : Value).ownBlock)) (HO_2.out) (fun k_ hk => ⟨⟨hk.1, ⟨hk.2.2.1, hk.2.2.2⟩⟩, hk.2.1⟩))).2.1 (Kd.V_F (Kd.V_mono (ok' := (fun k_ => ((fun k_ => ((P0_0_ k_ ∨ P2_ k_) ∨ w.heap.size ≤ k_) ∧ k_ ≠ gb175 ∧ k_ ≠ gb176)) k_ ∧ some k_ ≠ (u7 : Value).ownBlock)) (HO_2.out) (fun k_ hk => ⟨⟨hk.1, ⟨hk.2.2.1, hk.2.2.2⟩⟩, hk.2.1⟩))))); (case aB => exact (by repeat (first | (with_reducible first | exact HB.out | apply below_alloc | apply pw_below_drewN | apply below_drew1 | refine below_set ?_ GE175.out | refine below_set ?_ GE176.out) | exact HB.out))); (case aF => exact (fun k_ hk => ⟨(.inr (Nat.le_trans (below_size (by repeat (first | (with_reducible first | exact HB.out | apply below_alloc | apply pw_below_drewN | apply below_drew1 | refine below_set ?_ GE175.out | refine below_set ?_ GE176.out) | exact HB.out))) hk)), Kd.freshB (g := gb175) (o := .cells #[.slice A0_0 l0_0.length c0_0, .int .u64 a0_1, .int .u64 a0_2] 25 (0, 0)) (vb_ BK175.out) k_ hk, Kd.freshB (g := gb176) (o := .cells #[.slice none 0 0, .int .u64 0, .int .u64 0] 25 (0, 0)) (vb_ BK176.out) k_ hk⟩)); (case aO => exact (kN_ HO_7.out)); (case aS => exact (below_size (by repeat (first | (with_reducible first | exact HB.out | apply below_alloc | apply pw_below_drewN | apply below_drew1 | refine below_set ?_ GE175.out | refine below_set ?_ GE176.out) | exact HB.out)))); (case aL => have := LMc28.out; omega); intro v186 w29 ho hb hg hat; rw [← Ny185.out] at ho; have n0_ := Aside0.mk (Kd.V_afterv (ok := (fun k_ => ((P0_0_ k_ ∨ P2_ k_) ∨ w.heap.size ≤ k_) ∧ k_ ≠ gb175 ∧ k_ ≠ gb176)) (by (with_reducible repeat (first | apply Kd.V_alloc | apply Kd.V_drewN | apply Kd.V_drew)); exact Kd.V_mono HO_2.out (fun _ hk => ⟨⟨hk.1, ⟨hk.2.2.1, hk.2.2.2⟩⟩, hk.2.1⟩)) hg hat); have n1_ := Aside0.mk (Kd.V_afterv (ok := (fun k_ => ((P0_0_ k_ ∨ P2_ k_) ∨ w.heap.size ≤ k_) ∧ k_ ≠ gb175 ∧ k_ ≠ gb176)) (by (with_reducible repeat (first | apply Kd.V_alloc | apply Kd.V_drewN | apply Kd.V_drew)); exact Kd.V_mono HO_14.out (fun _ hk => ⟨⟨hk.1, ⟨hk.2.2.1, hk.2.2.2⟩⟩, hk.2.1⟩)) hg hat); have n2_ := Aside0.mk (Kd.V_afterv (ok := (fun k_ => ((P0_0_ k_ ∨ P2_ k_) ∨ w.heap.size ≤ k_) ∧ k_ ≠ gb175 ∧ k_ ≠ gb176)) (by (with_reducible repeat (first | apply Kd.V_alloc | apply Kd.V_drewN | apply Kd.V_drew)); exact Kd.V_mono HO_176000.out (fun _ hk => ⟨⟨hk.1, ⟨hk.2.2.1, hk.2.2.2⟩⟩, hk.2.1⟩)) hg hat); have n3_ := Aside0.mk (blk_grown (g := gb175) (o := .cells #[.slice A0_0 l0_0.length c0_0, .int .u64 a0_1, .int .u64 a0_2] 25 (0, 0)) (vb_ BK175.out) hg (Kd.N_ne HO_7.out BK175.out (by decide))); have n4_ := Aside0.mk (blk_grown (g := gb176) (o := .cells #[.slice none 0 0, .int .u64 0, .int .u64 0] 25 (0, 0)) (vb_ BK176.out) hg (Kd.N_ne HO_7.out BK176.out (by decide))); have n5_ := Aside0.mk (hb); have n6_ := Aside0.mk (ho); clear HO_2; clear HO_14; clear HO_176000; clear BK175; clear BK176; clear HB; clear HO_7; have HO_2 := n0_; have HO_14 := n1_; have HO_176000 := n2_; have BK175 := n3_; have BK176 := n4_; have HB := n5_; have HO187 := n6_; clear n0_ n1_ n2_ n3_ n4_ n5_ n6_; clear ho hb hg hat))
              go_meet
              case rel => exact ⟨_, (y185), H', ⟨by have := HK1.out; first | omega | exact Nat.le_refl _⟩, ⟨by (with_reducible repeat (first | apply Kd.N_alloc | apply Kd.N_drewN | apply Kd.N_drew)); exact HO187.out⟩, ⟨by (with_reducible repeat (first | apply Kd.V_alloc | apply Kd.V_drewN | apply Kd.V_drew)); exact Kd.V_mono HO_176000.out (fun _ hk => ⟨hk.1.1, ⟨hk.2, ⟨hk.1.2.1, hk.1.2.2⟩⟩⟩)⟩, ⟨by (with_reducible repeat (first | refine blk_drewN ?_ _ | refine blk_drew ?_ | refine blk_alloc ?_ _)); exact BK175.out⟩, ⟨by (with_reducible repeat (first | refine blk_drewN ?_ _ | refine blk_drew ?_ | refine blk_alloc ?_ _)); exact BK176.out⟩, ⟨by repeat (first | (with_reducible first | exact HB.out | apply below_alloc | apply pw_below_drewN | apply below_drew1 | refine below_set ?_ GE175.out | refine below_set ?_ GE176.out) | exact HB.out)⟩⟩
            · rw [if_neg c28] at H
              exact absurd H (by simp)
          · rw [if_neg c27] at H
            have c27b0 : decide (0 < (l2.length : Int)) = false := decide_eq_false c27
            have c27b1 : decide (0 < l2.length) = false := decide_eq_false (by omega)
            clear c27
            (first | rw [c27b0] | rw [c27b1] | (simp only [i64_w, i32_w]; rw [c27b0]) | skip)
            have H' := Aside0.mk H
            clear H
            go_wp2
            go_meet
            case rel => exact ⟨_, (x7_1), H', ⟨by have := HK1.out; first | omega | exact Nat.le_refl _⟩, ⟨by (with_reducible repeat (first | apply Kd.N_alloc | apply Kd.N_drewN | apply Kd.N_drew)); exact HO_7.out⟩, ⟨by (with_reducible repeat (first | apply Kd.V_alloc | apply Kd.V_drewN | apply Kd.V_drew)); exact HO_176000.out⟩, ⟨by (with_reducible repeat (first | refine blk_drewN ?_ _ | refine blk_drew ?_ | refine blk_alloc ?_ _)); exact BK175.out⟩, ⟨by (with_reducible repeat (first | refine blk_drewN ?_ _ | refine blk_drew ?_ | refine blk_alloc ?_ _)); exact BK176.out⟩, ⟨by repeat (first | (with_reducible first | exact HB.out | apply below_alloc | apply pw_below_drewN | apply below_drew1 | refine below_set ?_ GE175.out | refine below_set ?_ GE176.out) | exact HB.out)⟩⟩
        case rest =>
          clear HC26
          try clear c1
          try clear p1
          try clear q1
          try clear hx1
          try clear c2
          try clear p2
          try clear p6
          try clear c8
          try clear c10
          try clear c10b0
          try clear c11
          try clear c11b0
          try clear c12
          try clear c12b0
          try clear c13
          try clear c13b0
          try clear c14
          try clear c16
          try clear c17
          try clear c18
          try clear p18
          try clear q18
          try clear hx18
          try clear c23
          try clear c24
          try clear c27
          try clear c27b0
          try clear c27b1
          try clear c28
          try clear hcz18_0
          try clear hcz18_1
          try clear hcz20_0
          try clear hcz20_1
          try clear hcz25_0
          try clear hcz25_1
          try clear hcz9_0
          try clear hcz9_1
          try clear hcz9_2
          try clear hfz18_0
          try clear hfz18_1
          try clear hfz20_0
          try clear hfz20_1
          try clear hfz25_0
          try clear hfz25_1
          try clear hfz9_0
          try clear hfz9_1
          try clear hfz9_2
          try clear hx180_0
          try clear hx180_1
          try clear p180
          try clear p2
          try clear q180
          obtain ⟨kq, x7_25, HA, HJ25, HO_7, HO_176000, BK175, BK176, HB⟩ := hcut
          cases kq with
          | zero => exact absurd HA.out (by simp [demurralref16_With.j1])
          | succ kj25 =>
            have H := HA.out
            clear HA
            simp only [demurralref16_With.j1] at H
            have H' := Aside0.mk H
            clear H
            have hnb30 := NB175_176.out
            have hnc30 := NB176_175.out
            have hcz31_0 : wc.cell? ⟨gb175, 0, none⟩ = some (.slice A0_0 l0_0.length c0_0) := (blk_cell BK175.out 0).trans rfl
            have hcz31_1 : wc.cell? ⟨gb175, 1, none⟩ = some (.int .u64 a0_1) := (blk_cell BK175.out 1).trans rfl
            have hcz31_2 : wc.cell? ⟨gb175, 2, none⟩ = some (.int .u64 a0_2) := (blk_cell BK175.out 2).trans rfl
            have hfz31_0 := blk_frozen BK175.out 0
            have hfz31_1 := blk_frozen BK175.out 1
            have hfz31_2 := blk_frozen BK175.out 2
            go_wp2
            go_loopg [7, 41] kj25 (fun kq v7 v41 w' => ∃ (x7_3 : List (S57)) (x41_3 : Int), v41 = .int .i64 x41_3 ∧ Aside0 (demurralref16_With.l1 kq a1 x7_3 l0_0 (l0_0.length : Int) x41_3 l0_0 a0_1 a0_2 = some (r1, r2, r3)) ∧ Aside0 (kq ≤ kj25) ∧ Aside0 (Kd.N k57 57 w' w.heap.size (fun k_ => ((P0_0_ k_ ∨ P2_ k_) ∨ w.heap.size ≤ k_) ∧ k_ ≠ gb175 ∧ k_ ≠ gb176) v7 x7_3) ∧ Aside0 (Kd.V k57 57 w' w.heap.size (fun k_ => ((P0_0_ k_ ∨ P2_ k_) ∨ w.heap.size ≤ k_) ∧ some k_ ≠ (v7 : Value).ownBlock ∧ k_ ≠ gb175 ∧ k_ ≠ gb176) (.slice A0_0 l0_0.length c0_0) l0_0) ∧ Aside0 (Kd.V k57 57 w' w.heap.size (fun k_ => ((P0_0_ k_ ∨ P2_ k_) ∨ w.heap.size ≤ k_) ∧ some k_ ≠ (v7 : Value).ownBlock ∧ k_ ≠ gb175 ∧ k_ ≠ gb176) (.slice A0_0 l0_0.length c0_0) l0_0) ∧ Aside0 (w'.heap[gb175]? = some (.cells #[(.slice A0_0 l0_0.length c0_0), .int .u64 a0_1, .int .u64 a0_2] 25 (0, 0))) ∧ Aside0 (w'.heap[gb176]? = some (.cells #[(.slice none 0 0), .int .u64 0, .int .u64 0] 25 (0, 0))) ∧ Aside0 (Below w.heap.size w w'))
            case atStart => exact ⟨(x7_25), (0), (by first | rfl | (simp; done) | (simp [*]; done)), H', ⟨Nat.le_refl _⟩, ⟨by (with_reducible repeat (first | apply Kd.N_alloc | apply Kd.N_drewN | apply Kd.N_drew)); exact HO_7.out⟩, ⟨by (with_reducible repeat (first | apply Kd.V_alloc | apply Kd.V_drewN | apply Kd.V_drew)); exact HO_176000.out⟩, ⟨by (with_reducible repeat (first | apply Kd.V_alloc | apply Kd.V_drewN | apply Kd.V_drew)); exact HO_176000.out⟩, ⟨by (with_reducible repeat (first | refine blk_drewN ?_ _ | refine blk_drew ?_ | refine blk_alloc ?_ _)); exact BK175.out⟩, ⟨by (with_reducible repeat (first | refine blk_drewN ?_ _ | refine blk_drew ?_ | refine blk_alloc ?_ _)); exact BK176.out⟩, ⟨by repeat (first | (with_reducible first | exact HB.out | apply below_alloc | apply pw_below_drewN | apply below_drew1 | refine below_set ?_ GE175.out | refine below_set ?_ GE176.out) | exact HB.out)⟩⟩
            case round =>
              clear H'
              try clear c1
              try clear p1
              try clear q1
              try clear hx1
              try clear c2
              try clear p2
              try clear c3
              try clear p6
              try clear c8
              try clear c10
              try clear c10b0
              try clear c11
              try clear c11b0
              try clear c12
              try clear c12b0
              try clear c13
              try clear c13b0
              try clear c14
              try clear c16
              try clear c17
              try clear c18
              try clear p18
              try clear q18
              try clear hx18
              try clear c23
              try clear c24
              try clear c27
              try clear c27b0
              try clear c27b1
              try clear c28
              try clear c30
              try clear hcz18_0
              try clear hcz18_1
              try clear hcz20_0
              try clear hcz20_1
              try clear hcz25_0
              try clear hcz25_1
              try clear hcz31_0
              try clear hcz31_1
              try clear hcz31_2
              try clear hcz9_0
              try clear hcz9_1
              try clear hcz9_2
              try clear hfz18_0
              try clear hfz18_1
              try clear hfz20_0
              try clear hfz20_1
              try clear hfz25_0
              try clear hfz25_1
              try clear hfz31_0
              try clear hfz31_1
              try clear hfz31_2
              try clear hfz9_0
              try clear hfz9_1
              try clear hfz9_2
              try clear hx180_0
              try clear hx180_1
              try clear p1
              try clear p18
              try clear p180
              try clear p2
              try clear p6
              try clear q1
              try clear q18
              try clear q180
              obtain ⟨x7_3, x41_3, rfl, HA, HK3, HO_7, HO_39, HO_176000, BK175, BK176, HB⟩ := hrel
              cases gk with
              | zero => exact absurd HA.out (by simp [demurralref16_With.l1])
              | succ k3 =>
                have H := HA.out
                clear HA
                simp only [demurralref16_With.l1] at H
                by_cases c32 : x41_3 < (l0_0.length : Int)
                · rw [if_pos c32] at H
                  have c32b0 : decide (x41_3 < (l0_0.length : Int)) = true := decide_eq_true c32
                  clear c32
                  by_cases c33 : 0 ≤ x41_3
                  · rw [if_pos c33] at H
                    have c33b0 : decide (0 ≤ x41_3) = true := decide_eq_true c33
                    clear c33
                    by_cases c34 : x41_3 < (l0_0.length : Int)
                    · rw [if_pos c34] at H
                      have c34b0 : decide (x41_3 < (l0_0.length : Int)) = true := decide_eq_true c34
                      clear c34
                      by_cases c35 : ((rd_T57 l0_0 x41_3).f0) > a1
                      · rw [if_pos c35] at H
                        have c35b0 : decide (a1 < ((rd_T57 l0_0 x41_3).f0)) = true := decide_eq_true c35
                        clear c35
                        by_cases c36 : x7_3.length < 4398046511104
                        · rw [if_pos c36] at H
                          have LMc36 := Aside0.mk c36
                          clear c36
                          obtain ⟨y190, hy190⟩ : ∃ y_ : List (S57), y_ = (x7_3 ++ [(⟨(rd_T57 l0_0 x41_3).f0, (rd_T57 l0_0 x41_3).f1⟩ : S57)]) := ⟨_, rfl⟩
                          replace H : (demurralref16_With.l1 k3 a1 y190 l0_0 (l0_0.length : Int) (wrap64 (x41_3 + 1)) l0_0 a0_1 a0_2) = some (r1, r2, r3) := by first | (rw [hy190]; with_reducible exact H) | (have H2_ := (Option.bind_some _ _).symm.trans H; rw [hy190]; with_reducible exact H2_) | (have H2_ := (Option.bind_some _ _).symm.trans H; with_reducible exact H2_) | with_reducible exact H | (rw [hy190]; exact H) | exact H
                          have Ny190 := Aside0.mk hy190
                          clear hy190
                          have H' := Aside0.mk H
                          clear H
                          have p188 : 0 ≤ (x41_3 : Int) := of_decide_eq_true (by first | (with_reducible assumption) | assumption)
                          have q188 : x41_3 < (l0_0.length : Int) := of_decide_eq_true (by first | (with_reducible assumption) | assumption)
                          obtain ⟨ad188, A188_1, c188_1, e188, hx188_0, hx188_1, hl188_1, hi188_1⟩ := at_T57 (Kd.V_reads' HO_39.out).2.2 x41_3 p188 q188
                          cases e188
                          obtain ⟨ce188, hce188, hMe188, hcc188⟩ := Kd.V_get HO_39.out z57 x41_3 p188 (by first | exact q188 | exact of_decide_eq_true (by first | (with_reducible assumption) | assumption) | (have e_ := (Kd.V_reads' HO_39.out).1; omega))
                          obtain ⟨ua188_1, uc188_1, rfl, ul188_1, ge188_1⟩ := k57_openF hMe188
                          have hv188_1 := hcc188 1 _ rfl
                          rw [add_field _ _ 1 (by omega)] at hv188_1
                          replace hv188_1 := Option.some.inj (hv188_1.symm.trans hx188_1)
                          injection hv188_1 with hva_ hvn_ hvc_
                          rw [hva_] at ge188_1
                          rw [hvc_] at ul188_1
                          have HL188_1 := Aside0.mk (show Kd.V k54 54 _ w.heap.size _ _ ((rd_T57 l0_0 x41_3).f1) from Kd.V_mk ul188_1 ge188_1)
                          clear hva_ hvn_ hvc_ ge188_1 ul188_1
                          clear hcc188 hce188
                          have HR188_1 := Aside0.mk hi188_1
                          have HC188_1 := Aside0.mk hl188_1
                          clear hi188_1 hl188_1
                          replace p188 := eq_true p188
                          replace q188 := eq_true q188
                          go_wp2_with (first | ((with_reducible refine gate_dst (N := 11) rfl ?_); refine box_event ?hg (N := 11) ?hd (cs := #[.int .u64 0, .slice none 0 0]) (t := 57) ?hr ?_; (case hd => rfl); (case hg => rfl); (case hr => first | (go_simp; done) | (go_simp; rfl)); intro gb189 hg w37 hbox hb; have n0_ := Aside0.mk (Kd.N_below (Kd.N_elderB (kN_ HO_7.out) gb189 (Nat.le_of_eq hg.symm)) hb); have n1_ := Aside0.mk (Kd.V_below (Kd.V_elderB (kV_ HO_39.out) gb189 (Nat.le_of_eq hg.symm)) hb); have n2_ := Aside0.mk (Kd.V_below (Kd.V_elderB (kV_ HO_176000.out) gb189 (Nat.le_of_eq hg.symm)) hb); have n3_ := Aside0.mk (Kd.V_below (Kd.V_elderB (kV_ HL188_1.out) gb189 (Nat.le_of_eq hg.symm)) hb); have n4_ := Aside0.mk (blk_below (g := gb175) (o := .cells #[.slice (some ad188) l0_0.length c0_0, .int .u64 a0_1, .int .u64 a0_2] 25 (0, 0)) (vb_ BK175.out) hb); have n5_ := Aside0.mk (blk_below (g := gb176) (o := .cells #[.slice none 0 0, .int .u64 0, .int .u64 0] 25 (0, 0)) (vb_ BK176.out) hb); have n6_ := Aside0.mk (Kd.C_below (by repeat (first | (with_reducible exact HR188_1.out) | (with_reducible refine Kd.C_alloc ?_ _) | (with_reducible refine Kd.C_drewN ?_ _) | (with_reducible refine Kd.C_drew ?_) | exact HR188_1.out)) hb); have n7_ := Aside0.mk (below_step (by repeat (first | (with_reducible first | exact HB.out | apply below_alloc | apply pw_below_drewN | apply below_drew1 | refine below_set ?_ GE175.out | refine below_set ?_ GE176.out) | exact HB.out)) hb); have n8_ := Aside0.mk (hbox); have n9_ := Aside0.mk ((by rw [hg]; exact (below_size (by repeat (first | (with_reducible first | exact HB.out | apply below_alloc | apply pw_below_drewN | apply below_drew1 | refine below_set ?_ GE175.out | refine below_set ?_ GE176.out) | exact HB.out))) : w.heap.size ≤ gb189)); have n10_ := Aside0.mk ((by rw [hg]; exact (below_size (by repeat (first | (with_reducible first | exact HB.out | apply below_alloc | apply pw_below_drewN | apply below_drew1 | refine below_set ?_ GE175.out | refine below_set ?_ GE176.out) | exact HB.out))) : w.heap.size ≤ gb189)); have n11_ := Aside0.mk ((by rw [hg]; exact Nat.ne_of_lt (blk_lt (g := gb175) (o := .cells #[.slice (some ad188) l0_0.length c0_0, .int .u64 a0_1, .int .u64 a0_2] 25 (0, 0)) (vb_ BK175.out)) : gb175 ≠ gb189)); have n12_ := Aside0.mk ((by rw [hg]; exact Nat.ne_of_gt (blk_lt (g := gb175) (o := .cells #[.slice (some ad188) l0_0.length c0_0, .int .u64 a0_1, .int .u64 a0_2] 25 (0, 0)) (vb_ BK175.out)) : gb189 ≠ gb175)); have n13_ := Aside0.mk ((by rw [hg]; exact Nat.ne_of_lt (blk_lt (g := gb176) (o := .cells #[.slice none 0 0, .int .u64 0, .int .u64 0] 25 (0, 0)) (vb_ BK176.out)) : gb176 ≠ gb189)); have n14_ := Aside0.mk ((by rw [hg]; exact Nat.ne_of_gt (blk_lt (g := gb176) (o := .cells #[.slice none 0 0, .int .u64 0, .int .u64 0] 25 (0, 0)) (vb_ BK176.out)) : gb189 ≠ gb176)); clear HO_7; clear HO_39; clear HO_176000; clear HL188_1; clear BK175; clear BK176; clear HR188_1; clear HB; have HO_7 := n0_; have HO_39 := n1_; have HO_176000 := n2_; have HL188_1 := n3_; have BK175 := n4_; have BK176 := n5_; have HR188_1 := n6_; have HB := n7_; have BK189 := n8_; have GW189 := n9_; have GE189 := n10_; have NB175_189 := n11_; have NB189_175 := n12_; have NB176_189 := n13_; have NB189_176 := n14_; clear n0_ n1_ n2_ n3_ n4_ n5_ n6_ n7_ n8_ n9_ n10_ n11_ n12_ n13_ n14_; clear hb hbox hg; have hnb38 := NB189_175.out; have hnc38 := NB175_189.out; have hnb39 := NB189_176.out; have hnc39 := NB176_189.out; have hcz40_0 : w37.cell? ⟨gb189, 0, none⟩ = some (.int .u64 0) := (blk_cell BK189.out 0).trans rfl; have hcz40_1 : w37.cell? ⟨gb189, 1, none⟩ = some (.slice none 0 0) := (blk_cell BK189.out 1).trans rfl; have hfz40_0 := blk_frozen BK189.out 0; have hfz40_1 := blk_frozen BK189.out 1) | ((with_reducible refine gate_store (t := 57) (p := 11) rfl ?_); refine store_event (t := 57) (p := 11) (v := ?vo_w41) (w1 := ((w37.setCell ⟨gb189, 0, none⟩ (.int .u64 ((rd_T57 l0_0 x41_3).f0))).setCell ⟨gb189, 1, none⟩ (.slice A188_1 ((rd_T57 l0_0 x41_3).f1).length c188_1))) ?hg ?ho ?hn ?hr ?_; (case ho => rfl); (case hg => rfl); (case hn => rfl); (case hr => first | (go_simp; done) | (go_simp; rfl)); intro w41 hw; have n0_ : Aside0 (Kd.N k57 57 w41 w.heap.size (fun k_ => ((P0_0_ k_ ∨ P2_ k_) ∨ w.heap.size ≤ k_) ∧ k_ ≠ gb175 ∧ k_ ≠ gb176 ∧ k_ ≠ gb189) u7 x7_3) := ⟨(by rw [hw]; exact (by (with_reducible repeat (first | apply Kd.N_alloc | apply Kd.N_drewN | apply Kd.N_drew)); exact Kd.N_mono (Kd.N_far (p := ⟨gb189, 1, none⟩) (Kd.N_far (p := ⟨gb189, 0, none⟩) (Kd.N_mono HO_7.out (fun k_ hk => (⟨hk, hk.2⟩ : _ ∧ k_ ≠ gb189))) (fun _ hk => hk.2) (.int .u64 ((rd_T57 l0_0 x41_3).f0))) (fun _ hk => hk.2) (.slice A188_1 ((rd_T57 l0_0 x41_3).f1).length c188_1)) (fun _ hk => ⟨hk.1.1.1, ⟨hk.1.1.2.1, ⟨hk.1.1.2.2, hk.1.2⟩⟩⟩)))⟩; have n1_ : Aside0 (Kd.V k57 57 w41 w.heap.size (fun k_ => ((P0_0_ k_ ∨ P2_ k_) ∨ w.heap.size ≤ k_) ∧ some k_ ≠ (u7 : Value).ownBlock ∧ k_ ≠ gb175 ∧ k_ ≠ gb176 ∧ k_ ≠ gb189) (.slice (some ad188) l0_0.length c0_0) l0_0) := ⟨(by rw [hw]; exact (by (with_reducible repeat (first | apply Kd.V_alloc | apply Kd.V_drewN | apply Kd.V_drew)); exact Kd.V_mono (Kd.V_far (p := ⟨gb189, 1, none⟩) (Kd.V_far (p := ⟨gb189, 0, none⟩) (Kd.V_mono HO_39.out (fun k_ hk => (⟨hk, hk.2⟩ : _ ∧ k_ ≠ gb189))) (fun _ hk => hk.2) (.int .u64 ((rd_T57 l0_0 x41_3).f0))) (fun _ hk => hk.2) (.slice A188_1 ((rd_T57 l0_0 x41_3).f1).length c188_1)) (fun _ hk => ⟨hk.1.1.1, ⟨hk.1.1.2.1, ⟨hk.1.1.2.2.1, ⟨hk.1.1.2.2.2, hk.1.2⟩⟩⟩⟩)))⟩; have n2_ : Aside0 (Kd.V k57 57 w41 w.heap.size (fun k_ => ((P0_0_ k_ ∨ P2_ k_) ∨ w.heap.size ≤ k_) ∧ some k_ ≠ (u7 : Value).ownBlock ∧ k_ ≠ gb175 ∧ k_ ≠ gb176 ∧ k_ ≠ gb189) (.slice (some ad188) l0_0.length c0_0) l0_0) := ⟨(by rw [hw]; exact (by (with_reducible repeat (first | apply Kd.V_alloc | apply Kd.V_drewN | apply Kd.V_drew)); exact Kd.V_mono (Kd.V_far (p := ⟨gb189, 1, none⟩) (Kd.V_far (p := ⟨gb189, 0, none⟩) (Kd.V_mono HO_176000.out (fun k_ hk => (⟨hk, hk.2⟩ : _ ∧ k_ ≠ gb189))) (fun _ hk => hk.2) (.int .u64 ((rd_T57 l0_0 x41_3).f0))) (fun _ hk => hk.2) (.slice A188_1 ((rd_T57 l0_0 x41_3).f1).length c188_1)) (fun _ hk => ⟨hk.1.1.1, ⟨hk.1.1.2.1, ⟨hk.1.1.2.2.1, ⟨hk.1.1.2.2.2, hk.1.2⟩⟩⟩⟩)))⟩; have n3_ : Aside0 (Kd.V k54 54 w41 w.heap.size (fun k_ => ((P0_0_ k_ ∨ P2_ k_) ∨ w.heap.size ≤ k_) ∧ some k_ ≠ (u7 : Value).ownBlock ∧ k_ ≠ gb175 ∧ k_ ≠ gb176 ∧ k_ ≠ gb189) (.slice A188_1 ((rd_T57 l0_0 x41_3).f1).length c188_1) ((rd_T57 l0_0 x41_3).f1)) := ⟨(by rw [hw]; exact (by (with_reducible repeat (first | apply Kd.V_alloc | apply Kd.V_drewN | apply Kd.V_drew)); exact Kd.V_mono (Kd.V_far (p := ⟨gb189, 1, none⟩) (Kd.V_far (p := ⟨gb189, 0, none⟩) (Kd.V_mono HL188_1.out (fun k_ hk => (⟨hk, hk.2⟩ : _ ∧ k_ ≠ gb189))) (fun _ hk => hk.2) (.int .u64 ((rd_T57 l0_0 x41_3).f0))) (fun _ hk => hk.2) (.slice A188_1 ((rd_T57 l0_0 x41_3).f1).length c188_1)) (fun _ hk => ⟨hk.1.1.1, ⟨hk.1.1.2.1, ⟨hk.1.1.2.2.1, ⟨hk.1.1.2.2.2, hk.1.2⟩⟩⟩⟩)))⟩; have n4_ : Aside0 (w41.heap[gb175]? = some (.cells #[.slice (some ad188) l0_0.length c0_0, .int .u64 a0_1, .int .u64 a0_2] 25 (0, 0))) := ⟨(by rw [hw]; exact (by (with_reducible repeat (first | refine blk_drewN ?_ _ | refine blk_drew ?_ | refine blk_alloc ?_ _)); refine blk_far ?_ NB175_189.out _; (with_reducible repeat (first | refine blk_drewN ?_ _ | refine blk_drew ?_ | refine blk_alloc ?_ _)); refine blk_far ?_ NB175_189.out _; (with_reducible repeat (first | refine blk_drewN ?_ _ | refine blk_drew ?_ | refine blk_alloc ?_ _)); exact BK175.out))⟩; have n5_ : Aside0 (w41.heap[gb176]? = some (.cells #[.slice none 0 0, .int .u64 0, .int .u64 0] 25 (0, 0))) := ⟨(by rw [hw]; exact (by (with_reducible repeat (first | refine blk_drewN ?_ _ | refine blk_drew ?_ | refine blk_alloc ?_ _)); refine blk_far ?_ NB176_189.out _; (with_reducible repeat (first | refine blk_drewN ?_ _ | refine blk_drew ?_ | refine blk_alloc ?_ _)); refine blk_far ?_ NB176_189.out _; (with_reducible repeat (first | refine blk_drewN ?_ _ | refine blk_drew ?_ | refine blk_alloc ?_ _)); exact BK176.out))⟩; have n6_ : Aside0 (w41.heap[gb189]? = some (.cells #[.int .u64 ((rd_T57 l0_0 x41_3).f0), .slice A188_1 ((rd_T57 l0_0 x41_3).f1).length c188_1] 57 (0, 0))) := ⟨(by rw [hw]; exact (by (with_reducible repeat (first | refine blk_drewN ?_ _ | refine blk_drew ?_ | refine blk_alloc ?_ _)); refine blk_put (cs := #[.int .u64 ((rd_T57 l0_0 x41_3).f0), .slice none 0 0]) ?_ 1 _ rfl; (with_reducible repeat (first | refine blk_drewN ?_ _ | refine blk_drew ?_ | refine blk_alloc ?_ _)); refine blk_put (cs := #[.int .u64 0, .slice none 0 0]) ?_ 0 _ rfl; (with_reducible repeat (first | refine blk_drewN ?_ _ | refine blk_drew ?_ | refine blk_alloc ?_ _)); exact BK189.out))⟩; have n7_ : Aside0 (Below w.heap.size w w41) := ⟨(by rw [hw]; exact (by repeat (first | (with_reducible first | exact HB.out | apply below_alloc | apply pw_below_drewN | apply below_drew1 | refine below_set ?_ GE175.out | refine below_set ?_ GE176.out | refine below_set ?_ GE189.out) | exact HB.out)))⟩; clear hw; clear HO_7; clear HO_39; clear HO_176000; clear HL188_1; clear BK175; clear BK176; clear BK189; clear HB; have HO_7 := n0_; have HO_39 := n1_; have HO_176000 := n2_; have HL188_1 := n3_; have BK175 := n4_; have BK176 := n5_; have BK189 := n6_; have HB := n7_; clear n0_ n1_ n2_ n3_ n4_ n5_ n6_ n7_; have hcz42_0 : w41.cell? ⟨gb189, 0, none⟩ = some (.int .u64 ((rd_T57 l0_0 x41_3).f0)) := (blk_cell BK189.out 0).trans rfl; have hcz42_1 : w41.cell? ⟨gb189, 1, none⟩ = some (.slice A188_1 ((rd_T57 l0_0 x41_3).f1).length c188_1) := (blk_cell BK189.out 1).trans rfl; have hfz42_0 := blk_frozen BK189.out 0; have hfz42_1 := blk_frozen BK189.out 1) | ((with_reducible refine gate_builtin (b := .append) (xs := #[.tmp 49, .tmp 51]) rfl ?_); at_builtin; refine Kd.N_append k57 (w0 := w) w.heap.size rfl (.tmp 49) (.tmp 51) 22 57 (.agg #[(.int .u64 0), (.slice none 0 0)]) 32 rfl Try.underlying22 info57 rfl (by decide) (by omega) u7 x7_3 (⟨(rd_T57 l0_0 x41_3).f0, (rd_T57 l0_0 x41_3).f1⟩ : S57) [.int .u64 ((rd_T57 l0_0 x41_3).f0), .slice A188_1 ((rd_T57 l0_0 x41_3).f1).length c188_1] (fun k_ => ((P0_0_ k_ ∨ P2_ k_) ∨ w.heap.size ≤ k_) ∧ k_ ≠ gb175 ∧ k_ ≠ gb176 ∧ k_ ≠ gb189) (fun k_ => ((fun k_ => ((P0_0_ k_ ∨ P2_ k_) ∨ w.heap.size ≤ k_) ∧ k_ ≠ gb175 ∧ k_ ≠ gb176 ∧ k_ ≠ gb189)) k_ ∧ some k_ ≠ (u7 : Value).ownBlock) rfl rfl ?aP (fun _ hk => hk) ?aF ?aO ?aB ?aS ?aL ?_; (case aP => exact (k57_mkF _ _ (⟨(rd_T57 l0_0 x41_3).f0, (rd_T57 l0_0 x41_3).f1⟩ : S57) (Kd.V_reads' (Kd.V_mono (ok' := (fun k_ => ((fun k_ => ((P0_0_ k_ ∨ P2_ k_) ∨ w.heap.size ≤ k_) ∧ k_ ≠ gb175 ∧ k_ ≠ gb176 ∧ k_ ≠ gb189)) k_ ∧ some k_ ≠ (u7 : Value).ownBlock)) (HL188_1.out) (fun k_ hk => ⟨⟨hk.1, ⟨hk.2.2.1, ⟨hk.2.2.2.1, hk.2.2.2.2⟩⟩⟩, hk.2.1⟩))).2.1 (Kd.V_F (Kd.V_mono (ok' := (fun k_ => ((fun k_ => ((P0_0_ k_ ∨ P2_ k_) ∨ w.heap.size ≤ k_) ∧ k_ ≠ gb175 ∧ k_ ≠ gb176 ∧ k_ ≠ gb189)) k_ ∧ some k_ ≠ (u7 : Value).ownBlock)) (HL188_1.out) (fun k_ hk => ⟨⟨hk.1, ⟨hk.2.2.1, ⟨hk.2.2.2.1, hk.2.2.2.2⟩⟩⟩, hk.2.1⟩))))); (case aB => exact (by repeat (first | (with_reducible first | exact HB.out | apply below_alloc | apply pw_below_drewN | apply below_drew1 | refine below_set ?_ GE175.out | refine below_set ?_ GE176.out | refine below_set ?_ GE189.out) | exact HB.out))); (case aF => exact (fun k_ hk => ⟨(.inr (Nat.le_trans (below_size (by repeat (first | (with_reducible first | exact HB.out | apply below_alloc | apply pw_below_drewN | apply below_drew1 | refine below_set ?_ GE175.out | refine below_set ?_ GE176.out | refine below_set ?_ GE189.out) | exact HB.out))) hk)), Kd.freshB (g := gb175) (o := .cells #[.slice (some ad188) l0_0.length c0_0, .int .u64 a0_1, .int .u64 a0_2] 25 (0, 0)) (vb_ BK175.out) k_ hk, Kd.freshB (g := gb176) (o := .cells #[.slice none 0 0, .int .u64 0, .int .u64 0] 25 (0, 0)) (vb_ BK176.out) k_ hk, Kd.freshB (g := gb189) (o := .cells #[.int .u64 ((rd_T57 l0_0 x41_3).f0), .slice A188_1 ((rd_T57 l0_0 x41_3).f1).length c188_1] 57 (0, 0)) (vb_ BK189.out) k_ hk⟩)); (case aO => exact (kN_ HO_7.out)); (case aS => exact (below_size (by repeat (first | (with_reducible first | exact HB.out | apply below_alloc | apply pw_below_drewN | apply below_drew1 | refine below_set ?_ GE175.out | refine below_set ?_ GE176.out | refine below_set ?_ GE189.out) | exact HB.out)))); (case aL => have := LMc36.out; omega); intro v191 w43 ho hb hg hat; rw [← Ny190.out] at ho; have n0_ := Aside0.mk (Kd.V_afterv (ok := (fun k_ => ((P0_0_ k_ ∨ P2_ k_) ∨ w.heap.size ≤ k_) ∧ k_ ≠ gb175 ∧ k_ ≠ gb176 ∧ k_ ≠ gb189)) (by (with_reducible repeat (first | apply Kd.V_alloc | apply Kd.V_drewN | apply Kd.V_drew)); exact Kd.V_mono HO_39.out (fun _ hk => ⟨⟨hk.1, ⟨hk.2.2.1, ⟨hk.2.2.2.1, hk.2.2.2.2⟩⟩⟩, hk.2.1⟩)) hg hat); have n1_ := Aside0.mk (Kd.V_afterv (ok := (fun k_ => ((P0_0_ k_ ∨ P2_ k_) ∨ w.heap.size ≤ k_) ∧ k_ ≠ gb175 ∧ k_ ≠ gb176 ∧ k_ ≠ gb189)) (by (with_reducible repeat (first | apply Kd.V_alloc | apply Kd.V_drewN | apply Kd.V_drew)); exact Kd.V_mono HO_176000.out (fun _ hk => ⟨⟨hk.1, ⟨hk.2.2.1, ⟨hk.2.2.2.1, hk.2.2.2.2⟩⟩⟩, hk.2.1⟩)) hg hat); have n2_ := Aside0.mk (blk_grown (g := gb175) (o := .cells #[.slice (some ad188) l0_0.length c0_0, .int .u64 a0_1, .int .u64 a0_2] 25 (0, 0)) (vb_ BK175.out) hg (Kd.N_ne HO_7.out BK175.out (by decide))); have n3_ := Aside0.mk (blk_grown (g := gb176) (o := .cells #[.slice none 0 0, .int .u64 0, .int .u64 0] 25 (0, 0)) (vb_ BK176.out) hg (Kd.N_ne HO_7.out BK176.out (by decide))); have n4_ := Aside0.mk (Kd.V_afterv (ok := (fun k_ => ((P0_0_ k_ ∨ P2_ k_) ∨ w.heap.size ≤ k_) ∧ k_ ≠ gb175 ∧ k_ ≠ gb176 ∧ k_ ≠ gb189)) (by (with_reducible repeat (first | apply Kd.V_alloc | apply Kd.V_drewN | apply Kd.V_drew)); exact Kd.V_mono HL188_1.out (fun _ hk => ⟨⟨hk.1, ⟨hk.2.2.1, ⟨hk.2.2.2.1, hk.2.2.2.2⟩⟩⟩, hk.2.1⟩)) hg hat); have n5_ := Aside0.mk (blk_grown (g := gb189) (o := .cells #[.int .u64 ((rd_T57 l0_0 x41_3).f0), .slice A188_1 ((rd_T57 l0_0 x41_3).f1).length c188_1] 57 (0, 0)) (vb_ BK189.out) hg (Kd.N_away HO_7.out (fun _ hk => hk.2.2.2))); have n6_ := Aside0.mk (hb); have n7_ := Aside0.mk (ho); clear HO_39; clear HO_176000; clear BK175; clear BK176; clear HL188_1; clear BK189; clear HB; clear HO_7; have HO_39 := n0_; have HO_176000 := n1_; have BK175 := n2_; have BK176 := n3_; have HL188_1 := n4_; have BK189 := n5_; have HB := n6_; have HO192 := n7_; clear n0_ n1_ n2_ n3_ n4_ n5_ n6_ n7_; clear ho hb hg hat))
                          go_roundg k3
                          case measure => have := HK1.out; have := HJ25.out; have := HK3.out; omega
                          case rel => exact ⟨(y190), (wrap64 (x41_3 + 1)), (by first | rfl | (simp; done) | (simp [*]; done)), H', ⟨by have := HK1.out; have := HJ25.out; have := HK3.out; omega⟩, ⟨by (with_reducible repeat (first | apply Kd.N_alloc | apply Kd.N_drewN | apply Kd.N_drew)); exact Kd.N_mono HO192.out (fun _ hk => ⟨hk.1, ⟨hk.2.1, hk.2.2.1⟩⟩)⟩, ⟨by (with_reducible repeat (first | apply Kd.V_alloc | apply Kd.V_drewN | apply Kd.V_drew)); exact Kd.V_mono HO_39.out (fun _ hk => ⟨hk.1.1, ⟨hk.2, ⟨hk.1.2.1, hk.1.2.2.1⟩⟩⟩)⟩, ⟨by (with_reducible repeat (first | apply Kd.V_alloc | apply Kd.V_drewN | apply Kd.V_drew)); exact Kd.V_mono HO_176000.out (fun _ hk => ⟨hk.1.1, ⟨hk.2, ⟨hk.1.2.1, hk.1.2.2.1⟩⟩⟩)⟩, ⟨by (with_reducible repeat (first | refine blk_drewN ?_ _ | refine blk_drew ?_ | refine blk_alloc ?_ _)); exact BK175.out⟩, ⟨by (with_reducible repeat (first | refine blk_drewN ?_ _ | refine blk_drew ?_ | refine blk_alloc ?_ _)); exact BK176.out⟩, ⟨by repeat (first | (with_reducible first | exact HB.out | apply below_alloc | apply pw_below_drewN | apply below_drew1 | refine below_set ?_ GE175.out | refine below_set ?_ GE176.out | refine below_set ?_ GE189.out) | exact HB.out)⟩⟩
                        · rw [if_neg c36] at H
                          exact absurd H (by simp)
                      · rw [if_neg c35] at H
                        have c35b0 : decide (a1 < ((rd_T57 l0_0 x41_3).f0)) = false := decide_eq_false c35
                        clear c35
                        have H' := Aside0.mk H
                        clear H
                        have p188 : 0 ≤ (x41_3 : Int) := of_decide_eq_true (by first | (with_reducible assumption) | assumption)
                        have q188 : x41_3 < (l0_0.length : Int) := of_decide_eq_true (by first | (with_reducible assumption) | assumption)
                        obtain ⟨ad188, A188_1, c188_1, e188, hx188_0, hx188_1, hl188_1, hi188_1⟩ := at_T57 (Kd.V_reads' HO_39.out).2.2 x41_3 p188 q188
                        cases e188
                        obtain ⟨ce188, hce188, hMe188, hcc188⟩ := Kd.V_get HO_39.out z57 x41_3 p188 (by first | exact q188 | exact of_decide_eq_true (by first | (with_reducible assumption) | assumption) | (have e_ := (Kd.V_reads' HO_39.out).1; omega))
                        obtain ⟨ua188_1, uc188_1, rfl, ul188_1, ge188_1⟩ := k57_openF hMe188
                        have hv188_1 := hcc188 1 _ rfl
                        rw [add_field _ _ 1 (by omega)] at hv188_1
                        replace hv188_1 := Option.some.inj (hv188_1.symm.trans hx188_1)
                        injection hv188_1 with hva_ hvn_ hvc_
                        rw [hva_] at ge188_1
                        rw [hvc_] at ul188_1
                        have HL188_1 := Aside0.mk (show Kd.V k54 54 _ w.heap.size _ _ ((rd_T57 l0_0 x41_3).f1) from Kd.V_mk ul188_1 ge188_1)
                        clear hva_ hvn_ hvc_ ge188_1 ul188_1
                        clear hcc188 hce188
                        have HR188_1 := Aside0.mk hi188_1
                        have HC188_1 := Aside0.mk hl188_1
                        clear hi188_1 hl188_1
                        replace p188 := eq_true p188
                        replace q188 := eq_true q188
                        go_wp2_with (first | ((with_reducible refine gate_dst (N := 11) rfl ?_); refine box_event ?hg (N := 11) ?hd (cs := #[.int .u64 0, .slice none 0 0]) (t := 57) ?hr ?_; (case hd => rfl); (case hg => rfl); (case hr => first | (go_simp; done) | (go_simp; rfl)); intro gb189 hg w44 hbox hb; have n0_ := Aside0.mk (Kd.N_below (Kd.N_elderB (kN_ HO_7.out) gb189 (Nat.le_of_eq hg.symm)) hb); have n1_ := Aside0.mk (Kd.V_below (Kd.V_elderB (kV_ HO_39.out) gb189 (Nat.le_of_eq hg.symm)) hb); have n2_ := Aside0.mk (Kd.V_below (Kd.V_elderB (kV_ HO_176000.out) gb189 (Nat.le_of_eq hg.symm)) hb); have n3_ := Aside0.mk (Kd.V_below (Kd.V_elderB (kV_ HL188_1.out) gb189 (Nat.le_of_eq hg.symm)) hb); have n4_ := Aside0.mk (blk_below (g := gb175) (o := .cells #[.slice (some ad188) l0_0.length c0_0, .int .u64 a0_1, .int .u64 a0_2] 25 (0, 0)) (vb_ BK175.out) hb); have n5_ := Aside0.mk (blk_below (g := gb176) (o := .cells #[.slice none 0 0, .int .u64 0, .int .u64 0] 25 (0, 0)) (vb_ BK176.out) hb); have n6_ := Aside0.mk (Kd.C_below (by repeat (first | (with_reducible exact HR188_1.out) | (with_reducible refine Kd.C_alloc ?_ _) | (with_reducible refine Kd.C_drewN ?_ _) | (with_reducible refine Kd.C_drew ?_) | exact HR188_1.out)) hb); have n7_ := Aside0.mk (below_step (by repeat (first | (with_reducible first | exact HB.out | apply below_alloc | apply pw_below_drewN | apply below_drew1 | refine below_set ?_ GE175.out | refine below_set ?_ GE176.out) | exact HB.out)) hb); have n8_ := Aside0.mk (hbox); have n9_ := Aside0.mk ((by rw [hg]; exact (below_size (by repeat (first | (with_reducible first | exact HB.out | apply below_alloc | apply pw_below_drewN | apply below_drew1 | refine below_set ?_ GE175.out | refine below_set ?_ GE176.out) | exact HB.out))) : w.heap.size ≤ gb189)); have n10_ := Aside0.mk ((by rw [hg]; exact (below_size (by repeat (first | (with_reducible first | exact HB.out | apply below_alloc | apply pw_below_drewN | apply below_drew1 | refine below_set ?_ GE175.out | refine below_set ?_ GE176.out) | exact HB.out))) : w.heap.size ≤ gb189)); have n11_ := Aside0.mk ((by rw [hg]; exact Nat.ne_of_lt (blk_lt (g := gb175) (o := .cells #[.slice (some ad188) l0_0.length c0_0, .int .u64 a0_1, .int .u64 a0_2] 25 (0, 0)) (vb_ BK175.out)) : gb175 ≠ gb189)); have n12_ := Aside0.mk ((by rw [hg]; exact Nat.ne_of_gt (blk_lt (g := gb175) (o := .cells #[.slice (some ad188) l0_0.length c0_0, .int .u64 a0_1, .int .u64 a0_2] 25 (0, 0)) (vb_ BK175.out)) : gb189 ≠ gb175)); have n13_ := Aside0.mk ((by rw [hg]; exact Nat.ne_of_lt (blk_lt (g := gb176) (o := .cells #[.slice none 0 0, .int .u64 0, .int .u64 0] 25 (0, 0)) (vb_ BK176.out)) : gb176 ≠ gb189)); have n14_ := Aside0.mk ((by rw [hg]; exact Nat.ne_of_gt (blk_lt (g := gb176) (o := .cells #[.slice none 0 0, .int .u64 0, .int .u64 0] 25 (0, 0)) (vb_ BK176.out)) : gb189 ≠ gb176)); clear HO_7; clear HO_39; clear HO_176000; clear HL188_1; clear BK175; clear BK176; clear HR188_1; clear HB; have HO_7 := n0_; have HO_39 := n1_; have HO_176000 := n2_; have HL188_1 := n3_; have BK175 := n4_; have BK176 := n5_; have HR188_1 := n6_; have HB := n7_; have BK189 := n8_; have GW189 := n9_; have GE189 := n10_; have NB175_189 := n11_; have NB189_175 := n12_; have NB176_189 := n13_; have NB189_176 := n14_; clear n0_ n1_ n2_ n3_ n4_ n5_ n6_ n7_ n8_ n9_ n10_ n11_ n12_ n13_ n14_; clear hb hbox hg; have hnb45 := NB189_175.out; have hnc45 := NB175_189.out; have hnb46 := NB189_176.out; have hnc46 := NB176_189.out; have hcz47_0 : w44.cell? ⟨gb189, 0, none⟩ = some (.int .u64 0) := (blk_cell BK189.out 0).trans rfl; have hcz47_1 : w44.cell? ⟨gb189, 1, none⟩ = some (.slice none 0 0) := (blk_cell BK189.out 1).trans rfl; have hfz47_0 := blk_frozen BK189.out 0; have hfz47_1 := blk_frozen BK189.out 1))
                        go_roundg k3
                        case measure => have := HK1.out; have := HJ25.out; have := HK3.out; omega
                        case rel => exact ⟨(x7_3), (wrap64 (x41_3 + 1)), (by first | rfl | (simp; done) | (simp [*]; done)), H', ⟨by have := HK1.out; have := HJ25.out; have := HK3.out; omega⟩, ⟨by (with_reducible repeat (first | apply Kd.N_alloc | apply Kd.N_drewN | apply Kd.N_drew)); exact Kd.N_mono (Kd.N_far (p := ⟨gb189, 1, none⟩) (Kd.N_far (p := ⟨gb189, 0, none⟩) (Kd.N_mono HO_7.out (fun k_ hk => (⟨hk, hk.2⟩ : _ ∧ k_ ≠ gb189))) (fun _ hk => hk.2) (.int .u64 ((rd_T57 l0_0 x41_3).f0))) (fun _ hk => hk.2) (.slice A188_1 ((rd_T57 l0_0 x41_3).f1).length c188_1)) (fun _ hk => ⟨hk.1.1.1, ⟨hk.1.1.2.1, hk.1.1.2.2⟩⟩)⟩, ⟨by (with_reducible repeat (first | apply Kd.V_alloc | apply Kd.V_drewN | apply Kd.V_drew)); exact Kd.V_mono (Kd.V_far (p := ⟨gb189, 1, none⟩) (Kd.V_far (p := ⟨gb189, 0, none⟩) (Kd.V_mono HO_39.out (fun k_ hk => (⟨hk, hk.2⟩ : _ ∧ k_ ≠ gb189))) (fun _ hk => hk.2) (.int .u64 ((rd_T57 l0_0 x41_3).f0))) (fun _ hk => hk.2) (.slice A188_1 ((rd_T57 l0_0 x41_3).f1).length c188_1)) (fun _ hk => ⟨hk.1.1.1, ⟨hk.1.1.2.1, ⟨hk.1.1.2.2.1, hk.1.1.2.2.2⟩⟩⟩)⟩, ⟨by (with_reducible repeat (first | apply Kd.V_alloc | apply Kd.V_drewN | apply Kd.V_drew)); exact Kd.V_mono (Kd.V_far (p := ⟨gb189, 1, none⟩) (Kd.V_far (p := ⟨gb189, 0, none⟩) (Kd.V_mono HO_176000.out (fun k_ hk => (⟨hk, hk.2⟩ : _ ∧ k_ ≠ gb189))) (fun _ hk => hk.2) (.int .u64 ((rd_T57 l0_0 x41_3).f0))) (fun _ hk => hk.2) (.slice A188_1 ((rd_T57 l0_0 x41_3).f1).length c188_1)) (fun _ hk => ⟨hk.1.1.1, ⟨hk.1.1.2.1, ⟨hk.1.1.2.2.1, hk.1.1.2.2.2⟩⟩⟩)⟩, ⟨by (with_reducible repeat (first | refine blk_drewN ?_ _ | refine blk_drew ?_ | refine blk_alloc ?_ _)); refine blk_far ?_ NB175_189.out _; (with_reducible repeat (first | refine blk_drewN ?_ _ | refine blk_drew ?_ | refine blk_alloc ?_ _)); refine blk_far ?_ NB175_189.out _; (with_reducible repeat (first | refine blk_drewN ?_ _ | refine blk_drew ?_ | refine blk_alloc ?_ _)); exact BK175.out⟩, ⟨by (with_reducible repeat (first | refine blk_drewN ?_ _ | refine blk_drew ?_ | refine blk_alloc ?_ _)); refine blk_far ?_ NB176_189.out _; (with_reducible repeat (first | refine blk_drewN ?_ _ | refine blk_drew ?_ | refine blk_alloc ?_ _)); refine blk_far ?_ NB176_189.out _; (with_reducible repeat (first | refine blk_drewN ?_ _ | refine blk_drew ?_ | refine blk_alloc ?_ _)); exact BK176.out⟩, ⟨by repeat (first | (with_reducible first | exact HB.out | apply below_alloc | apply pw_below_drewN | apply below_drew1 | refine below_set ?_ GE175.out | refine below_set ?_ GE176.out | refine below_set ?_ GE189.out) | exact HB.out)⟩⟩
                    · rw [if_neg c34] at H
                      exact absurd H (by simp)
                  · rw [if_neg c33] at H
                    exact absurd H (by simp)
                · rw [if_neg c32] at H
                  have c32b0 : decide (x41_3 < (l0_0.length : Int)) = false := decide_eq_false c32
                  clear c32
                  simp only [Option.some.injEq, Prod.mk.injEq] at H
                  obtain ⟨rfl, rfl, rfl⟩ := H
                  have hnb48 := NB175_176.out
                  have hnc48 := NB176_175.out
                  have hcz49_0 : wr.cell? ⟨gb175, 0, none⟩ = some (.slice A0_0 l0_0.length c0_0) := (blk_cell BK175.out 0).trans rfl
                  have hcz49_1 : wr.cell? ⟨gb175, 1, none⟩ = some (.int .u64 a0_1) := (blk_cell BK175.out 1).trans rfl
                  have hcz49_2 : wr.cell? ⟨gb175, 2, none⟩ = some (.int .u64 a0_2) := (blk_cell BK175.out 2).trans rfl
                  have hfz49_0 := blk_frozen BK175.out 0
                  have hfz49_1 := blk_frozen BK175.out 1
                  have hfz49_2 := blk_frozen BK175.out 2
                  obtain ⟨Ao50, co50, eo50⟩ := Kd.N_slice HO_7.out
                  subst eo50
                  have hcz51_0 : wr.cell? ⟨gb176, 0, none⟩ = some (.slice none 0 0) := (blk_cell BK176.out 0).trans rfl
                  have hcz51_1 : wr.cell? ⟨gb176, 1, none⟩ = some (.int .u64 0) := (blk_cell BK176.out 1).trans rfl
                  have hcz51_2 : wr.cell? ⟨gb176, 2, none⟩ = some (.int .u64 0) := (blk_cell BK176.out 2).trans rfl
                  have hfz51_0 := blk_frozen BK176.out 0
                  have hfz51_1 := blk_frozen BK176.out 1
                  have hfz51_2 := blk_frozen BK176.out 2
                  go_wp2
                  refine bodyPost_ret (results_cell_row rfl _ _ gb176 25 #[.slice Ao50 x7_3.length co50, .int .u64 a0_1, .int .u64 a0_2] (0, 0) _ rfl (by (with_reducible repeat (first | refine blk_drewN ?_ _ | refine blk_drew ?_ | refine blk_alloc ?_ _)); refine blk_put (cs := #[.slice Ao50 x7_3.length co50, .int .u64 a0_1, .int .u64 0]) ?_ 2 _ rfl; (with_reducible repeat (first | refine blk_drewN ?_ _ | refine blk_drew ?_ | refine blk_alloc ?_ _)); refine blk_put (cs := #[.slice Ao50 x7_3.length co50, .int .u64 0, .int .u64 0]) ?_ 1 _ rfl; (with_reducible repeat (first | refine blk_drewN ?_ _ | refine blk_drew ?_ | refine blk_alloc ?_ _)); refine blk_put (cs := #[.slice none 0 0, .int .u64 0, .int .u64 0]) ?_ 0 _ rfl; (with_reducible repeat (first | refine blk_drewN ?_ _ | refine blk_drew ?_ | refine blk_alloc ?_ _)); exact BK176.out) Try.underlying25 rfl (by kernel_rfl)) rfl ?_
                  exact ⟨_, by first | rfl | (simp [errW_none, errW_some] <;> rfl) | (simp [*, errW_none, errW_some] <;> rfl), by (with_reducible repeat (first | apply Kd.N_alloc | apply Kd.N_drewN | apply Kd.N_drew)); exact Kd.N_mono (Kd.N_far (p := ⟨gb176, 2, none⟩) (Kd.N_far (p := ⟨gb176, 1, none⟩) (Kd.N_far (p := ⟨gb176, 0, none⟩) (Kd.N_mono HO_7.out (fun k_ hk => (⟨hk, hk.2.2⟩ : _ ∧ k_ ≠ gb176))) (fun _ hk => hk.2) (.slice Ao50 x7_3.length co50)) (fun _ hk => hk.2) (.int .u64 a0_1)) (fun _ hk => hk.2) (.int .u64 a0_2)) (fun _ hk => hk.1.1), by repeat (first | (with_reducible first | exact HB.out | apply below_alloc | apply pw_below_drewN | apply below_drew1 | refine below_set ?_ GE175.out | refine below_set ?_ GE176.out) | exact HB.out)⟩

end Go.Proofs.Ytbmfcikjhnnnbaa.Q
