-- PRINTED by print.py (a twelfth state) out of the translation. Not trusted: Lean checks it.
import Derived.Test.YtioafoilinhmjaaQx0
import Derived.Test.YtioafoilinhmjaaQx128
namespace Go.Proofs.Ytioafoilinhmjaa.Q
open Go.RowKit Go.Proofs.YtioafoilinhmjaaW.PrintWords Go.Proofs.YtioafoilinhmjaaW.PrintLast Go.Proofs.YtioafoilinhmjaaW.PrintMore
attribute [local go_sem] max2_int min2_int max_two min_two max_three min_three max_four min_four   -- for this text's walks alone
set_option linter.unusedVariables false
set_option linter.unusedSimpArgs false

/-! ### demurralref05_first: function 21 -/
mutual
def demurralref05_first.l0 : Nat → ByteArray → Int → ByteArray → List Int → Int → Option (List Int)
  | 0, _, _, _, _, _ => none
  | k + 1, x0, x1, x2, x7, x8 => if x8 < 8 then (if 0 ≤ (wrap64 (4 * x8)) then (if (wrap64 (4 * x8)) ≤ (wrap64 ((wrap64 (4 * x8)) + 4)) then (if (wrap64 ((wrap64 (4 * x8)) + 4)) ≤ (x0.size : Int) then ((demurralref05_word.f (x0.extract ((wrap64 (4 * x8)) : Int).toNat ((wrap64 ((wrap64 (4 * x8)) + 4)) : Int).toNat)).bind fun t112 => (if x7.length < 35184372088832 then (demurralref05_first.l0 k x0 x1 x2 (x7 ++ [t112]) (wrap64 (x8 + 1))) else (none))) else (none)) else (none)) else (none)) else (if x7.length < 35184372088832 then (demurralref05_first.l1 k x2 (x7 ++ [x1]) 0) else (none))
def demurralref05_first.l1 : Nat → ByteArray → List Int → Int → Option (List Int)
  | 0, _, _, _ => none
  | k + 1, x2, x7, x9 => if x9 < 3 then (if 0 ≤ (wrap64 (4 * x9)) then (if (wrap64 (4 * x9)) ≤ (wrap64 ((wrap64 (4 * x9)) + 4)) then (if (wrap64 ((wrap64 (4 * x9)) + 4)) ≤ (x2.size : Int) then ((demurralref05_word.f (x2.extract ((wrap64 (4 * x9)) : Int).toNat ((wrap64 ((wrap64 (4 * x9)) + 4)) : Int).toNat)).bind fun t119 => (if x7.length < 35184372088832 then (demurralref05_first.l1 k x2 (x7 ++ [t119]) (wrap64 (x9 + 1))) else (none))) else (none)) else (none)) else (none)) else (some x7)
end
def demurralref05_first.f (k : Nat) (a0 : ByteArray) (a1 : Int) (a2 : ByteArray) : Option (List Int) := demurralref05_first.l0 k a0 a1 a2 (([1634760805, 857760878, 2036477234, 1797285236] : List Int)) 0
theorem demurralref05_first.mono_l : ∀ k, (∀ y0 y1 y2 y3 y4, LeO (demurralref05_first.l0 k y0 y1 y2 y3 y4) (demurralref05_first.l0 (k + 1) y0 y1 y2 y3 y4)) ∧ (∀ y0 y1 y2, LeO (demurralref05_first.l1 k y0 y1 y2) (demurralref05_first.l1 (k + 1) y0 y1 y2))
  | 0 => ⟨fun _ _ _ _ _ r h => by simp [demurralref05_first.l0] at h, fun _ _ _ r h => by simp [demurralref05_first.l1] at h⟩
  | k + 1 => by
    obtain ⟨ih0, ih1⟩ := demurralref05_first.mono_l k
    refine ⟨?_, ?_⟩
    · intro y0 y1 y2 y3 y4
      unfold demurralref05_first.l0
      repeat' first
      | (with_reducible exact ih0 _ _ _ _ _)
      | (with_reducible exact ih1 _ _ _)
      | (with_reducible exact LeO.refl _)
      | (with_reducible exact LeO.none _)
      | (with_reducible refine LeO.ite ?_ ?_)
      | (with_reducible refine LeO.bind ?_ (fun _ => ?_))
      | exact ih0 _ _ _ _ _
      | exact ih1 _ _ _
      | exact LeO.none _
      | refine LeO.ite ?_ ?_
      | refine LeO.bind ?_ (fun _ => ?_)
    · intro y0 y1 y2
      unfold demurralref05_first.l1
      repeat' first
      | (with_reducible exact ih0 _ _ _ _ _)
      | (with_reducible exact ih1 _ _ _)
      | (with_reducible exact LeO.refl _)
      | (with_reducible exact LeO.none _)
      | (with_reducible refine LeO.ite ?_ ?_)
      | (with_reducible refine LeO.bind ?_ (fun _ => ?_))
      | exact ih0 _ _ _ _ _
      | exact ih1 _ _ _
      | exact LeO.none _
      | refine LeO.ite ?_ ?_
      | refine LeO.bind ?_ (fun _ => ?_)
theorem demurralref05_first.mono : ∀ a0 a1 a2 k, LeO (demurralref05_first.f k a0 a1 a2) (demurralref05_first.f (k + 1) a0 a1 a2) := by
  intro a0 a1 a2 k
  obtain ⟨ih0, ih1⟩ := demurralref05_first.mono_l k
  unfold demurralref05_first.f
  repeat' first
      | (with_reducible exact ih0 _ _ _ _ _)
      | (with_reducible exact ih1 _ _ _)
      | (with_reducible exact LeO.refl _)
      | (with_reducible exact LeO.none _)
      | (with_reducible refine LeO.ite ?_ ?_)
      | (with_reducible refine LeO.bind ?_ (fun _ => ?_))
      | exact ih0 _ _ _ _ _
      | exact ih1 _ _ _
      | exact LeO.none _
      | refine LeO.ite ?_ ?_
      | refine LeO.bind ?_ (fun _ => ?_)
set_option maxHeartbeats 8000000 in
set_option maxRecDepth 100000 in
theorem demurralref05_first.calls (k : Nat) (a0 : ByteArray) (a1 : Int) (a2 : ByteArray) (r : List Int) (w : World) (h : demurralref05_first.f k a0 a1 a2 = some r) :
    Calls Try.prog 21 #[.string a0, .int .u32 a1, .string a2] w fun e w' => ∃ v0_ : Value, e = .returned (v0_) ∧ Kd.R (Kd.int .u32) 22 w' w.heap.size (fun _ => True) v0_ r ∧ Below w.heap.size w w' := by
  have HB := Aside0.mk (Below.refl w.heap.size w)
  have H : (demurralref05_first.l0 k a0 a1 a2 (([1634760805, 857760878, 2036477234, 1797285236] : List Int)) 0) = some r := h
  clear h
  obtain ⟨y109, hy109⟩ : ∃ y_ : List Int, y_ = (([1634760805, 857760878, 2036477234, 1797285236] : List Int)) := ⟨_, rfl⟩
  replace H : (demurralref05_first.l0 k a0 a1 a2 y109 0) = some r := by first | (rw [hy109]; with_reducible exact H) | (have H2_ := (Option.bind_some _ _).symm.trans H; rw [hy109]; with_reducible exact H2_) | (have H2_ := (Option.bind_some _ _).symm.trans H; with_reducible exact H2_) | with_reducible exact H | (rw [hy109]; exact H) | exact H
  have Ny109 := Aside0.mk hy109
  clear hy109
  have H' := Aside0.mk H
  clear H
  go_enter Try.func21, Try.ntmps21
  go_wp2_with (first | ((with_reducible refine gate_dst (N := 10) rfl ?_); refine Kd.R_lit (Kd.int .u32) _ 22 ?hg (N := 10) ?hd (xs := ([1634760805, 857760878, 2036477234, 1797285236] : List Int)) (inner := [.int .u32 1634760805, .int .u32 857760878, .int .u32 2036477234, .int .u32 1797285236]) (ok := fun _ => True) (okp := fun _ => True) ?hr ?hp (fun _ hk => hk) trivial (Below.refl _ _) (Nat.le_refl _) (by simp) ?_; (case hd => rfl); (case hg => rfl); (case hr => first | (go_simp; done) | (go_simp; rfl)); (case hp => exact (Reps.one (show Kd.M (Kd.int .u32) _ _ _ 1634760805 [.int .u32 1634760805] from rfl) (Reps.one (show Kd.M (Kd.int .u32) _ _ _ 857760878 [.int .u32 857760878] from rfl) (Reps.one (show Kd.M (Kd.int .u32) _ _ _ 2036477234 [.int .u32 2036477234] from rfl) (Reps.one (show Kd.M (Kd.int .u32) _ _ _ 1797285236 [.int .u32 1797285236] from rfl) (Reps.none _ _)))))); intro v110 w4 ho5 hb hg_ hnew_; clear hg_ hnew_; (first | rw [← Ny109.out] at ho5 | (simp only [Int.reduceToNat] at ho5; rw [← Ny109.out] at ho5)); have n0_ := Aside0.mk (Kd.R_lower ho5 (below_size (by repeat (first | (with_reducible first | exact HB.out | apply below_alloc | apply pw_below_drewN | apply below_drew1) | exact HB.out)))); have n1_ := Aside0.mk (below_step (by repeat (first | (with_reducible first | exact HB.out | apply below_alloc | apply pw_below_drewN | apply below_drew1) | exact HB.out)) hb); clear HB; have HO111 := n0_; have HB := n1_; clear n0_ n1_; clear hb ho5))
  go_loopg [7, 8] k (fun kq v7 v8 w' => ∃ (x7_1 : List Int) (x8_1 : Int), v8 = .int .i64 x8_1 ∧ Aside0 (demurralref05_first.l0 kq a0 a1 a2 x7_1 x8_1 = some r) ∧ Aside0 (kq ≤ k) ∧ Aside0 (Kd.R (Kd.int .u32) 22 w' w.heap.size (fun _ => True) v7 x7_1) ∧ Aside0 (Below w.heap.size w w'))
  case atStart => exact ⟨(y109), (0), (by first | rfl | (simp; done) | (simp [*]; done)), H', ⟨Nat.le_refl _⟩, ⟨by (with_reducible repeat (first | apply Kd.R_alloc | apply Kd.R_drewN | apply Kd.R_drew)); exact HO111.out⟩, ⟨by repeat (first | (with_reducible first | exact HB.out | apply below_alloc | apply pw_below_drewN | apply below_drew1) | exact HB.out)⟩⟩
  case round =>
    clear H'
    try clear c2
    try clear p2
    obtain ⟨x7_1, x8_1, rfl, HA, HK1, HO_7, HB⟩ := hrel
    cases gk with
    | zero => exact absurd HA.out (by simp [demurralref05_first.l0])
    | succ k1 =>
      have H := HA.out
      clear HA
      simp only [demurralref05_first.l0] at H
      by_cases c6 : x8_1 < 8
      · rw [if_pos c6] at H
        have c6b0 : decide (x8_1 < 8) = true := decide_eq_true c6
        clear c6
        obtain ⟨ji7, hji7⟩ : ∃ j_ : Int, (wrap64 (4 * x8_1)) = j_ := ⟨_, rfl⟩
        replace H : (if 0 ≤ (ji7) then (if (ji7) ≤ (wrap64 ((ji7) + 4)) then (if (wrap64 ((ji7) + 4)) ≤ (a0.size : Int) then ((demurralref05_word.f (a0.extract ((ji7) : Int).toNat ((wrap64 ((ji7) + 4)) : Int).toNat)).bind fun t112 => (if x7_1.length < 35184372088832 then (demurralref05_first.l0 k1 a0 a1 a2 (x7_1 ++ [t112]) (wrap64 (x8_1 + 1))) else (none))) else (none)) else (none)) else (none)) = some r := by first | (rw [hji7] at H; exact H) | (simp only [hji7] at H ⊢; exact H)
        have hji7w : (IntKind.i64.wrap (4 * x8_1)) = ji7 := (i64_w _).trans hji7
        by_cases c8 : 0 ≤ (ji7)
        · rw [if_pos c8] at H
          have c8b0 := eq_true c8
          have c8b1 : decide (0 ≤ (ji7)) = true := decide_eq_true c8
          clear c8
          by_cases c9 : (ji7) ≤ (wrap64 ((ji7) + 4))
          · rw [if_pos c9] at H
            have c9b0 := eq_true c9
            have c9b1 : decide ((ji7) ≤ (wrap64 ((ji7) + 4))) = true := decide_eq_true c9
            by_cases c10 : (wrap64 ((ji7) + 4)) ≤ (a0.size : Int)
            · rw [if_pos c10] at H
              have c10b0 := eq_true c10
              have c10b1 : decide ((wrap64 ((ji7) + 4)) ≤ (a0.size : Int)) = true := decide_eq_true c10
              replace H := Option.bind_eq_some_iff.mp H
              obtain ⟨t112, A110, H⟩ := H
              replace H : (if x7_1.length < 35184372088832 then (demurralref05_first.l0 k1 a0 a1 a2 (x7_1 ++ [t112]) (wrap64 (x8_1 + 1))) else (none)) = some r := H
              have A11 := Aside0.mk A110
              clear A110
              by_cases c12 : x7_1.length < 35184372088832
              · rw [if_pos c12] at H
                have LMc12 := Aside0.mk c12
                clear c12
                obtain ⟨y113, hy113⟩ : ∃ y_ : List Int, y_ = (x7_1 ++ [t112]) := ⟨_, rfl⟩
                replace H : (demurralref05_first.l0 k1 a0 a1 a2 y113 (wrap64 (x8_1 + 1))) = some r := by first | (rw [hy113]; with_reducible exact H) | (have H2_ := (Option.bind_some _ _).symm.trans H; rw [hy113]; with_reducible exact H2_) | (have H2_ := (Option.bind_some _ _).symm.trans H; with_reducible exact H2_) | with_reducible exact H | (rw [hy113]; exact H) | exact H
                have Ny113 := Aside0.mk hy113
                clear hy113
                have H' := Aside0.mk H
                clear H
                go_wp2_with (first | ((with_reducible refine gate_callee (f := 28) rfl ?_); refine goesL_ (some 23) rfl rfl Try.func28 (by kernel_rfl) rfl #[.string (a0.extract ((ji7) : Int).toNat ((wrap64 ((ji7) + 4)) : Int).toNat)] rfl (by (try simp only [List.map_toArray, List.map_cons, List.map_nil]); first | done | (simp only [hji7]; rfl) | rfl | (simp only [List.length_drop, List.length_take]; rfl) | (simp [Act.eval]; omega)) ?_; (with_reducible refine (demurralref05_word.calls (a0.extract ((ji7) : Int).toNat ((wrap64 ((ji7) + 4)) : Int).toNat) t112 _ A11.out).mono ?_); rintro e w' ⟨rfl, ⟨nd, rfl⟩⟩; refine ⟨_, rfl, ?_⟩) | ((with_reducible refine gate_builtin (b := .append) (xs := #[.tmp 15, .tmp 24]) rfl ?_); at_builtin; refine Kd.R_append (Kd.int .u32) (w0 := w) w.heap.size rfl (.tmp 15) (.tmp 24) 47 22 (.int .u32 0) 4 rfl Try.underlying47 info22 rfl (by decide) (by omega) u7 x7_1 t112 [.int .u32 t112] (fun _ => True) (fun _ => False) rfl rfl ?aP (fun _ hk => hk.elim) ?aF ?aO ?aB ?aS ?aL ?_; (case aP => exact rfl); (case aB => exact (by repeat (first | (with_reducible first | exact HB.out | apply below_alloc | apply pw_below_drewN | apply below_drew1) | exact HB.out))); (case aF => exact (fun _ _ => trivial)); (case aO => exact (by (with_reducible repeat (first | apply Kd.R_alloc | apply Kd.R_drewN | apply Kd.R_drew)); exact HO_7.out)); (case aS => exact (below_size (by repeat (first | (with_reducible first | exact HB.out | apply below_alloc | apply pw_below_drewN | apply below_drew1) | exact HB.out)))); (case aL => have := LMc12.out; omega); intro v114 w13 ho hb hg hat; rw [← Ny113.out] at ho; have n0_ := Aside0.mk (hb); have n1_ := Aside0.mk (ho); clear HB; clear HO_7; have HB := n0_; have HO115 := n1_; clear n0_ n1_; clear ho hb hg hat))
                go_roundg k1
                case measure => have := HK1.out; omega
                case rel => exact ⟨(y113), (wrap64 (x8_1 + 1)), (by first | rfl | (simp; done) | (simp [*]; done)), H', ⟨by have := HK1.out; omega⟩, ⟨by (with_reducible repeat (first | apply Kd.R_alloc | apply Kd.R_drewN | apply Kd.R_drew)); exact HO115.out⟩, ⟨by repeat (first | (with_reducible first | exact HB.out | apply below_alloc | apply pw_below_drewN | apply below_drew1) | exact HB.out)⟩⟩
              · rw [if_neg c12] at H
                exact absurd H (by simp)
            · rw [if_neg c10] at H
              exact absurd H (by simp)
          · rw [if_neg c9] at H
            exact absurd H (by simp)
        · rw [if_neg c8] at H
          exact absurd H (by simp)
      · rw [if_neg c6] at H
        have c6b0 : decide (x8_1 < 8) = false := decide_eq_false c6
        clear c6
        by_cases c14 : x7_1.length < 35184372088832
        · rw [if_pos c14] at H
          have LMc14 := Aside0.mk c14
          clear c14
          obtain ⟨y116, hy116⟩ : ∃ y_ : List Int, y_ = (x7_1 ++ [a1]) := ⟨_, rfl⟩
          replace H : (demurralref05_first.l1 k1 a2 y116 0) = some r := by first | (rw [hy116]; with_reducible exact H) | (have H2_ := (Option.bind_some _ _).symm.trans H; rw [hy116]; with_reducible exact H2_) | (have H2_ := (Option.bind_some _ _).symm.trans H; with_reducible exact H2_) | with_reducible exact H | (rw [hy116]; exact H) | exact H
          have Ny116 := Aside0.mk hy116
          clear hy116
          have H' := Aside0.mk H
          clear H
          go_wp2_with (first | ((with_reducible refine gate_builtin (b := .append) (xs := #[.tmp 26, .tmp 28]) rfl ?_); at_builtin; refine Kd.R_append (Kd.int .u32) (w0 := w) w.heap.size rfl (.tmp 26) (.tmp 28) 47 22 (.int .u32 0) 4 rfl Try.underlying47 info22 rfl (by decide) (by omega) u7 x7_1 a1 [.int .u32 a1] (fun _ => True) (fun _ => False) rfl rfl ?aP (fun _ hk => hk.elim) ?aF ?aO ?aB ?aS ?aL ?_; (case aP => exact rfl); (case aB => exact (by repeat (first | (with_reducible first | exact HB.out | apply below_alloc | apply pw_below_drewN | apply below_drew1) | exact HB.out))); (case aF => exact (fun _ _ => trivial)); (case aO => exact (by (with_reducible repeat (first | apply Kd.R_alloc | apply Kd.R_drewN | apply Kd.R_drew)); exact HO_7.out)); (case aS => exact (below_size (by repeat (first | (with_reducible first | exact HB.out | apply below_alloc | apply pw_below_drewN | apply below_drew1) | exact HB.out)))); (case aL => have := LMc14.out; omega); intro v117 w15 ho hb hg hat; rw [← Ny116.out] at ho; have n0_ := Aside0.mk (hb); have n1_ := Aside0.mk (ho); clear HB; clear HO_7; have HB := n0_; have HO118 := n1_; clear n0_ n1_; clear ho hb hg hat))
          go_loopg [7, 9] k1 (fun kq v7 v9 w' => ∃ (x7_2 : List Int) (x9_2 : Int), v9 = .int .i64 x9_2 ∧ Aside0 (demurralref05_first.l1 kq a2 x7_2 x9_2 = some r) ∧ Aside0 (kq ≤ k1) ∧ Aside0 (Kd.R (Kd.int .u32) 22 w' w.heap.size (fun _ => True) v7 x7_2) ∧ Aside0 (Below w.heap.size w w'))
          case atStart => exact ⟨(y116), (0), (by first | rfl | (simp; done) | (simp [*]; done)), H', ⟨Nat.le_refl _⟩, ⟨by (with_reducible repeat (first | apply Kd.R_alloc | apply Kd.R_drewN | apply Kd.R_drew)); exact HO118.out⟩, ⟨by repeat (first | (with_reducible first | exact HB.out | apply below_alloc | apply pw_below_drewN | apply below_drew1) | exact HB.out)⟩⟩
          case round =>
            clear H'
            try clear c1
            try clear c2
            try clear p2
            try clear c6
            try clear c6b0
            try clear p6
            try clear c8
            try clear c8b0
            try clear c8b1
            try clear c9
            try clear c9b0
            try clear c9b1
            try clear c10
            try clear c10b0
            try clear c10b1
            try clear c12
            try clear c14
            try clear p2
            obtain ⟨x7_2, x9_2, rfl, HA, HK2, HO_7, HB⟩ := hrel
            cases gk with
            | zero => exact absurd HA.out (by simp [demurralref05_first.l1])
            | succ k2 =>
              have H := HA.out
              clear HA
              simp only [demurralref05_first.l1] at H
              by_cases c16 : x9_2 < 3
              · rw [if_pos c16] at H
                have c16b0 : decide (x9_2 < 3) = true := decide_eq_true c16
                clear c16
                obtain ⟨ji17, hji17⟩ : ∃ j_ : Int, (wrap64 (4 * x9_2)) = j_ := ⟨_, rfl⟩
                replace H : (if 0 ≤ (ji17) then (if (ji17) ≤ (wrap64 ((ji17) + 4)) then (if (wrap64 ((ji17) + 4)) ≤ (a2.size : Int) then ((demurralref05_word.f (a2.extract ((ji17) : Int).toNat ((wrap64 ((ji17) + 4)) : Int).toNat)).bind fun t119 => (if x7_2.length < 35184372088832 then (demurralref05_first.l1 k2 a2 (x7_2 ++ [t119]) (wrap64 (x9_2 + 1))) else (none))) else (none)) else (none)) else (none)) = some r := by first | (rw [hji17] at H; exact H) | (simp only [hji17] at H ⊢; exact H)
                have hji17w : (IntKind.i64.wrap (4 * x9_2)) = ji17 := (i64_w _).trans hji17
                by_cases c18 : 0 ≤ (ji17)
                · rw [if_pos c18] at H
                  have c18b0 := eq_true c18
                  have c18b1 : decide (0 ≤ (ji17)) = true := decide_eq_true c18
                  clear c18
                  by_cases c19 : (ji17) ≤ (wrap64 ((ji17) + 4))
                  · rw [if_pos c19] at H
                    have c19b0 := eq_true c19
                    have c19b1 : decide ((ji17) ≤ (wrap64 ((ji17) + 4))) = true := decide_eq_true c19
                    by_cases c20 : (wrap64 ((ji17) + 4)) ≤ (a2.size : Int)
                    · rw [if_pos c20] at H
                      have c20b0 := eq_true c20
                      have c20b1 : decide ((wrap64 ((ji17) + 4)) ≤ (a2.size : Int)) = true := decide_eq_true c20
                      replace H := Option.bind_eq_some_iff.mp H
                      obtain ⟨t119, A210, H⟩ := H
                      replace H : (if x7_2.length < 35184372088832 then (demurralref05_first.l1 k2 a2 (x7_2 ++ [t119]) (wrap64 (x9_2 + 1))) else (none)) = some r := H
                      have A21 := Aside0.mk A210
                      clear A210
                      by_cases c22 : x7_2.length < 35184372088832
                      · rw [if_pos c22] at H
                        have LMc22 := Aside0.mk c22
                        clear c22
                        obtain ⟨y120, hy120⟩ : ∃ y_ : List Int, y_ = (x7_2 ++ [t119]) := ⟨_, rfl⟩
                        replace H : (demurralref05_first.l1 k2 a2 y120 (wrap64 (x9_2 + 1))) = some r := by first | (rw [hy120]; with_reducible exact H) | (have H2_ := (Option.bind_some _ _).symm.trans H; rw [hy120]; with_reducible exact H2_) | (have H2_ := (Option.bind_some _ _).symm.trans H; with_reducible exact H2_) | with_reducible exact H | (rw [hy120]; exact H) | exact H
                        have Ny120 := Aside0.mk hy120
                        clear hy120
                        have H' := Aside0.mk H
                        clear H
                        go_wp2_with (first | ((with_reducible refine gate_callee (f := 28) rfl ?_); refine goesL_ (some 42) rfl rfl Try.func28 (by kernel_rfl) rfl #[.string (a2.extract ((ji17) : Int).toNat ((wrap64 ((ji17) + 4)) : Int).toNat)] rfl (by (try simp only [List.map_toArray, List.map_cons, List.map_nil]); first | done | (simp only [hji17]; rfl) | rfl | (simp only [List.length_drop, List.length_take]; rfl) | (simp [Act.eval]; omega)) ?_; (with_reducible refine (demurralref05_word.calls (a2.extract ((ji17) : Int).toNat ((wrap64 ((ji17) + 4)) : Int).toNat) t119 _ A21.out).mono ?_); rintro e w' ⟨rfl, ⟨nd, rfl⟩⟩; refine ⟨_, rfl, ?_⟩) | ((with_reducible refine gate_builtin (b := .append) (xs := #[.tmp 34, .tmp 43]) rfl ?_); at_builtin; refine Kd.R_append (Kd.int .u32) (w0 := w) w.heap.size rfl (.tmp 34) (.tmp 43) 47 22 (.int .u32 0) 4 rfl Try.underlying47 info22 rfl (by decide) (by omega) u7 x7_2 t119 [.int .u32 t119] (fun _ => True) (fun _ => False) rfl rfl ?aP (fun _ hk => hk.elim) ?aF ?aO ?aB ?aS ?aL ?_; (case aP => exact rfl); (case aB => exact (by repeat (first | (with_reducible first | exact HB.out | apply below_alloc | apply pw_below_drewN | apply below_drew1) | exact HB.out))); (case aF => exact (fun _ _ => trivial)); (case aO => exact (by (with_reducible repeat (first | apply Kd.R_alloc | apply Kd.R_drewN | apply Kd.R_drew)); exact HO_7.out)); (case aS => exact (below_size (by repeat (first | (with_reducible first | exact HB.out | apply below_alloc | apply pw_below_drewN | apply below_drew1) | exact HB.out)))); (case aL => have := LMc22.out; omega); intro v121 w23 ho hb hg hat; rw [← Ny120.out] at ho; have n0_ := Aside0.mk (hb); have n1_ := Aside0.mk (ho); clear HB; clear HO_7; have HB := n0_; have HO122 := n1_; clear n0_ n1_; clear ho hb hg hat))
                        go_roundg k2
                        case measure => have := HK1.out; have := HK2.out; omega
                        case rel => exact ⟨(y120), (wrap64 (x9_2 + 1)), (by first | rfl | (simp; done) | (simp [*]; done)), H', ⟨by have := HK1.out; have := HK2.out; omega⟩, ⟨by (with_reducible repeat (first | apply Kd.R_alloc | apply Kd.R_drewN | apply Kd.R_drew)); exact HO122.out⟩, ⟨by repeat (first | (with_reducible first | exact HB.out | apply below_alloc | apply pw_below_drewN | apply below_drew1) | exact HB.out)⟩⟩
                      · rw [if_neg c22] at H
                        exact absurd H (by simp)
                    · rw [if_neg c20] at H
                      exact absurd H (by simp)
                  · rw [if_neg c19] at H
                    exact absurd H (by simp)
                · rw [if_neg c18] at H
                  exact absurd H (by simp)
              · rw [if_neg c16] at H
                have c16b0 : decide (x9_2 < 3) = false := decide_eq_false c16
                clear c16
                obtain rfl := Option.some.inj H
                go_wp2
                go_ret
                exact ⟨_, by first | rfl | (simp [errW_none, errW_some] <;> rfl) | (simp [*, errW_none, errW_some] <;> rfl), by (with_reducible repeat (first | apply Kd.R_alloc | apply Kd.R_drewN | apply Kd.R_drew)); exact HO_7.out, by repeat (first | (with_reducible first | exact HB.out | apply below_alloc | apply pw_below_drewN | apply below_drew1) | exact HB.out)⟩
        · rw [if_neg c14] at H
          exact absurd H (by simp)

end Go.Proofs.Ytioafoilinhmjaa.Q
