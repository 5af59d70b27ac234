-- PRINTED by print.py (a twelfth state) out of the translation. Not trusted: Lean checks it.
import Derived.Test.YtbmfcikjhnnnbaaHStep
import Derived.Test.YtbmfcikjhnnnbaaQx0
import Derived.Test.YtbmfcikjhnnnbaaQx111
import Derived.Test.YtbmfcikjhnnnbaaQx121
import Derived.Test.YtbmfcikjhnnnbaaQx139
namespace Go.Proofs.Ytbmfcikjhnnnbaa.Q
open Go.RowKit Go.Proofs.YtbmfcikjhnnnbaaW.PrintWords Go.Proofs.YtbmfcikjhnnnbaaW.PrintLast Go.Proofs.YtbmfcikjhnnnbaaW.PrintMore
attribute [local go_sem] max2_int min2_int max_two min_two max_three min_three max_four min_four   -- for this text's walks alone
set_option linter.unusedVariables false
set_option linter.unusedSimpArgs false

/-! ### demurralref16_Why: function 15 -/
def demurralref16_Why.j0 : Nat → Bool → List (S57) → Int → Int → Option (Int)
  | 0, _, _, _, _ => none
  | k + 1, x33, x170000, x170001, x170002 => if x33 = true then (some 6) else (if x170002 = 4611686018427387903 then (some 1) else (some 0))
def demurralref16_Why.f (k : Nat) (l0_0 : List (S57)) (a0_1 : Int) (a0_2 : Int) (a1 : Int) (a2 : ByteArray) : Option (Int) := (demurralref16_Right.f k l0_0 a0_1 a0_2).bind fun t170 => (if t170 = true then ((demurralref16_Mails.f k l0_0 a0_1 a0_2 a1).bind fun t171 => (if (a2.size : Int) > 1400 then (some 2) else ((demurralref16_has.f k t171 a2).bind fun t174 => (if t174 = true then (some 7) else (if (t171.length : Int) = 16 then (demurralref16_Why.j0 k true l0_0 a0_1 a0_2) else (if (t171.length : Int) = 0 then (demurralref16_Why.j0 k ((l0_0.length : Int) == 8) l0_0 a0_1 a0_2) else (demurralref16_Why.j0 k false l0_0 a0_1 a0_2))))))) else (some 1))
theorem demurralref16_Why.mono_l : ∀ k, (∀ y0 y1 y2 y3, LeO (demurralref16_Why.j0 k y0 y1 y2 y3) (demurralref16_Why.j0 (k + 1) y0 y1 y2 y3))
  | 0 => fun _ _ _ _ r h => by simp [demurralref16_Why.j0] at h
  | k + 1 => by
    have ih0 := demurralref16_Why.mono_l k
    · intro y0 y1 y2 y3
      unfold demurralref16_Why.j0
      repeat' first
      | (with_reducible exact ih0 _ _ _ _)
      | (with_reducible exact demurralref16_Mails.mono _ _ _ _ _)
      | (with_reducible exact demurralref16_Right.mono _ _ _ _)
      | (with_reducible exact demurralref16_has.mono _ _ _)
      | (with_reducible exact LeO.refl _)
      | (with_reducible exact LeO.none _)
      | (with_reducible refine LeO.ite ?_ ?_)
      | (with_reducible refine LeO.bind ?_ (fun _ => ?_))
      | exact ih0 _ _ _ _
      | exact demurralref16_Mails.mono _ _ _ _ _
      | exact demurralref16_Right.mono _ _ _ _
      | exact demurralref16_has.mono _ _ _
      | exact LeO.none _
      | refine LeO.ite ?_ ?_
      | refine LeO.bind ?_ (fun _ => ?_)
theorem demurralref16_Why.mono : ∀ a0 a1 a2 a3 a4 k, LeO (demurralref16_Why.f k a0 a1 a2 a3 a4) (demurralref16_Why.f (k + 1) a0 a1 a2 a3 a4) := by
  intro a0 a1 a2 a3 a4 k
  have ih0 := demurralref16_Why.mono_l k
  unfold demurralref16_Why.f
  repeat' first
      | (with_reducible exact ih0 _ _ _ _)
      | (with_reducible exact demurralref16_Mails.mono _ _ _ _ _)
      | (with_reducible exact demurralref16_Right.mono _ _ _ _)
      | (with_reducible exact demurralref16_has.mono _ _ _)
      | (with_reducible exact LeO.refl _)
      | (with_reducible exact LeO.none _)
      | (with_reducible refine LeO.ite ?_ ?_)
      | (with_reducible refine LeO.bind ?_ (fun _ => ?_))
      | exact ih0 _ _ _ _
      | exact demurralref16_Mails.mono _ _ _ _ _
      | exact demurralref16_Right.mono _ _ _ _
      | exact demurralref16_has.mono _ _ _
      | exact LeO.none _
      | refine LeO.ite ?_ ?_
      | refine LeO.bind ?_ (fun _ => ?_)
set_option maxHeartbeats 8000000 in
set_option maxRecDepth 100000 in
theorem demurralref16_Why.calls (k : Nat) (A0_0 : Option Addr) (c0_0 : Nat) (l0_0 : List (S57)) (a0_1 : Int) (a0_2 : Int) (a1 : Int) (a2 : ByteArray) (r : Int) (w : World) (hr0_0 : Kd.C k57 w A0_0 l0_0.length l0_0) (hc0_0 : l0_0.length ≤ c0_0) (h : demurralref16_Why.f k l0_0 a0_1 a0_2 a1 a2 = some r) :
    Calls Try.prog 15 #[.agg #[.slice A0_0 l0_0.length c0_0, .int .u64 a0_1, .int .u64 a0_2], .int .u64 a1, .string a2] w fun e w' => e = .returned (.int .i64 r) ∧ Below w.heap.size w w' := by
  have hu25 := Try.underlying25
  have HR0_0 := Aside0.mk hr0_0
  have HC0_0 := Aside0.mk hc0_0
  clear hr0_0 hc0_0
  have HB := Aside0.mk (Below.refl w.heap.size w)
  have H : ((demurralref16_Right.f k l0_0 a0_1 a0_2).bind fun t170 => (if t170 = true then ((demurralref16_Mails.f k l0_0 a0_1 a0_2 a1).bind fun t171 => (if (a2.size : Int) > 1400 then (some 2) else ((demurralref16_has.f k t171 a2).bind fun t174 => (if t174 = true then (some 7) else (if (t171.length : Int) = 16 then (demurralref16_Why.j0 k true l0_0 a0_1 a0_2) else (if (t171.length : Int) = 0 then (demurralref16_Why.j0 k ((l0_0.length : Int) == 8) l0_0 a0_1 a0_2) else (demurralref16_Why.j0 k false l0_0 a0_1 a0_2))))))) else (some 1))) = some r := h
  clear h
  replace H := Option.bind_eq_some_iff.mp H
  obtain ⟨t170, A40, H⟩ := H
  replace H : (if t170 = true then ((demurralref16_Mails.f k l0_0 a0_1 a0_2 a1).bind fun t171 => (if (a2.size : Int) > 1400 then (some 2) else ((demurralref16_has.f k t171 a2).bind fun t174 => (if t174 = true then (some 7) else (if (t171.length : Int) = 16 then (demurralref16_Why.j0 k true l0_0 a0_1 a0_2) else (if (t171.length : Int) = 0 then (demurralref16_Why.j0 k ((l0_0.length : Int) == 8) l0_0 a0_1 a0_2) else (demurralref16_Why.j0 k false l0_0 a0_1 a0_2))))))) else (some 1)) = some r := H
  have A4 := Aside0.mk A40
  clear A40
  by_cases c5 : t170 = true
  · subst c5
    have H1 : ((demurralref16_Mails.f k l0_0 a0_1 a0_2 a1).bind fun t171 => (if (a2.size : Int) > 1400 then (some 2) else ((demurralref16_has.f k t171 a2).bind fun t174 => (if t174 = true then (some 7) else (if (t171.length : Int) = 16 then (demurralref16_Why.j0 k true l0_0 a0_1 a0_2) else (if (t171.length : Int) = 0 then (demurralref16_Why.j0 k ((l0_0.length : Int) == 8) l0_0 a0_1 a0_2) else (demurralref16_Why.j0 k false l0_0 a0_1 a0_2))))))) = some r := by rw [if_pos rfl] at H; exact H
    clear H
    have H := H1
    clear H1
    replace H := Option.bind_eq_some_iff.mp H
    obtain ⟨t171, A60, H⟩ := H
    replace H : (if (a2.size : Int) > 1400 then (some 2) else ((demurralref16_has.f k t171 a2).bind fun t174 => (if t174 = true then (some 7) else (if (t171.length : Int) = 16 then (demurralref16_Why.j0 k true l0_0 a0_1 a0_2) else (if (t171.length : Int) = 0 then (demurralref16_Why.j0 k ((l0_0.length : Int) == 8) l0_0 a0_1 a0_2) else (demurralref16_Why.j0 k false l0_0 a0_1 a0_2)))))) = some r := H
    have A6 := Aside0.mk A60
    clear A60
    by_cases c7 : (a2.size : Int) > 1400
    · rw [if_pos c7] at H
      have c7b0 : decide (1400 < (a2.size : Int)) = true := decide_eq_true c7
      have c7b1 : decide (1400 < a2.size) = true := decide_eq_true (by omega)
      clear c7
      obtain rfl := Option.some.inj H
      go_enter Try.func15, Try.ntmps15
      go_wp2_with (first | ((with_reducible refine gate_dst (N := 3) rfl ?_); (try (refine gate_guard (by rfl) ?_; dsimp only)); refine box_event ?hg (N := 3) ?hd (cs := #[.slice A0_0 l0_0.length c0_0, .int .u64 a0_1, .int .u64 a0_2]) (t := 25) ?hr ?_; (case hd => rfl); (case hg => rfl); (case hr => first | (go_simp; done) | (go_simp; rfl)); intro gb169 hg w8 hbox hb; have n0_ := Aside0.mk (below_step (wb_ HB.out) hb); have n1_ := Aside0.mk (hbox); have n2_ := Aside0.mk ((by rw [hg]; exact (below_size (wb_ HB.out)) : w.heap.size ≤ gb169)); have n3_ := Aside0.mk ((by rw [hg]; exact (below_size (wb_ HB.out)) : w.heap.size ≤ gb169)); clear HB; have HB := n0_; have BK169 := n1_; have GW169 := n2_; have GE169 := n3_; clear n0_ n1_ n2_ n3_; clear hb hbox hg; have hcz9_0 : w8.cell? ⟨gb169, 0, none⟩ = some (.slice A0_0 l0_0.length c0_0) := (blk_cell BK169.out 0).trans rfl; have hcz9_1 : w8.cell? ⟨gb169, 1, none⟩ = some (.int .u64 a0_1) := (blk_cell BK169.out 1).trans rfl; have hcz9_2 : w8.cell? ⟨gb169, 2, none⟩ = some (.int .u64 a0_2) := (blk_cell BK169.out 2).trans rfl; have hfz9_0 := blk_frozen BK169.out 0; have hfz9_1 := blk_frozen BK169.out 1; have hfz9_2 := blk_frozen BK169.out 2) | ((with_reducible refine gate_callee (f := 11) rfl ?_); refine goesL_ (some 9) rfl rfl Try.func11 (by kernel_rfl) rfl #[.agg #[.slice A0_0 l0_0.length c0_0, .int .u64 a0_1, .int .u64 a0_2]] rfl (by (try simp only [List.map_toArray, List.map_cons, List.map_nil]); first | done | rfl | (simp only [List.length_drop, List.length_take]; rfl) | (simp [Act.eval]; omega)) ?_; (with_reducible refine (demurralref16_Right.calls k _ _ l0_0 a0_1 a0_2 true _ ?side1 ?side2 A4.out).mono ?_); (case side1 => repeat (first | exact (Kd.C_below HR0_0.out HB.out) | (with_reducible refine Kd.C_alloc ?_ _) | (with_reducible refine Kd.C_drewN ?_ _) | (with_reducible refine Kd.C_drew ?_))); (case side2 => exact HC0_0.out); rintro e w10 ⟨rfl, hb⟩; refine ⟨_, rfl, ?_⟩; have n0_ := Aside0.mk (blk_below (g := gb169) (o := .cells #[.slice A0_0 l0_0.length c0_0, .int .u64 a0_1, .int .u64 a0_2] 25 (0, 0)) (vb_ BK169.out) hb); have n1_ := Aside0.mk (below_step (by repeat (first | (with_reducible first | exact HB.out | apply below_alloc | apply pw_below_drewN | apply below_drew1 | refine below_set ?_ GE169.out) | exact HB.out)) hb); clear BK169; clear HB; have BK169 := n0_; have HB := n1_; clear n0_ n1_; (try clear hb); (try clear hb2); (try clear hk); (try clear hi); have hcz11_0 : w10.cell? ⟨gb169, 0, none⟩ = some (.slice A0_0 l0_0.length c0_0) := (blk_cell BK169.out 0).trans rfl; have hcz11_1 : w10.cell? ⟨gb169, 1, none⟩ = some (.int .u64 a0_1) := (blk_cell BK169.out 1).trans rfl; have hcz11_2 : w10.cell? ⟨gb169, 2, none⟩ = some (.int .u64 a0_2) := (blk_cell BK169.out 2).trans rfl; have hfz11_0 := blk_frozen BK169.out 0; have hfz11_1 := blk_frozen BK169.out 1; have hfz11_2 := blk_frozen BK169.out 2) | ((with_reducible refine gate_callee (f := 21) rfl ?_); refine goesL_ (some 13) rfl rfl Try.func21 (by kernel_rfl) rfl #[.agg #[.slice A0_0 l0_0.length c0_0, .int .u64 a0_1, .int .u64 a0_2], .int .u64 a1] rfl (by (try simp only [List.map_toArray, List.map_cons, List.map_nil]); first | done | rfl | (simp only [List.length_drop, List.length_take]; rfl) | (simp [Act.eval]; omega)) ?_; (with_reducible refine (demurralref16_Mails.calls k (fun k_ => k_ < w.heap.size) _ _ l0_0 a0_1 a0_2 a1 t171 _ ?side1 A6.out).mono ?_); (case side1 => exact Kd.V_mk HC0_0.out (Kd.F_below (Kd.C_F k57_heap HR0_0.out) (by repeat (first | (with_reducible first | exact HB.out | apply below_alloc | apply pw_below_drewN | apply below_drew1 | refine below_set ?_ GE169.out) | exact HB.out)))); rintro e w12 ⟨v172, rfl, ho0, hb⟩; refine ⟨_, rfl, ?_⟩; have n0_ := Aside0.mk (Kd.V_lower (Kd.V_mono (ok' := fun k_ => k_ ≠ gb169) ho0 (fun k_ hk_ => Or.elim hk_ (fun hs_ => fun e_ => Nat.not_le.2 hs_ (by rw [e_]; exact GW169.out)) (fun hn_ => (Kd.freshB (g := gb169) (o := .cells #[.slice A0_0 l0_0.length c0_0, .int .u64 a0_1, .int .u64 a0_2] 25 (0, 0)) (vb_ BK169.out) k_ hn_)))) (below_size (by repeat (first | (with_reducible first | exact HB.out | apply below_alloc | apply pw_below_drewN | apply below_drew1 | refine below_set ?_ GE169.out) | exact HB.out)))); have n1_ := Aside0.mk (blk_below (g := gb169) (o := .cells #[.slice A0_0 l0_0.length c0_0, .int .u64 a0_1, .int .u64 a0_2] 25 (0, 0)) (vb_ BK169.out) hb); have n2_ := Aside0.mk (below_step (by repeat (first | (with_reducible first | exact HB.out | apply below_alloc | apply pw_below_drewN | apply below_drew1 | refine below_set ?_ GE169.out) | exact HB.out)) hb); clear BK169; clear HB; have HO173 := n0_; have BK169 := n1_; have HB := n2_; clear n0_ n1_ n2_; (try clear hb); (try clear hb2); (try clear hk); (try clear hi); (try clear ho0)))
      go_ret
      exact ⟨by first | rfl | (simp [errW_none, errW_some] <;> rfl) | (simp [*, errW_none, errW_some] <;> rfl), by repeat (first | (with_reducible first | exact HB.out | apply below_alloc | apply pw_below_drewN | apply below_drew1 | refine below_set ?_ GE169.out) | exact HB.out)⟩
    · rw [if_neg c7] at H
      have c7b0 : decide (1400 < (a2.size : Int)) = false := decide_eq_false c7
      have c7b1 : decide (1400 < a2.size) = false := decide_eq_false (by omega)
      clear c7
      replace H := Option.bind_eq_some_iff.mp H
      obtain ⟨t174, A130, H⟩ := H
      replace H : (if t174 = true then (some 7) else (if (t171.length : Int) = 16 then (demurralref16_Why.j0 k true l0_0 a0_1 a0_2) else (if (t171.length : Int) = 0 then (demurralref16_Why.j0 k ((l0_0.length : Int) == 8) l0_0 a0_1 a0_2) else (demurralref16_Why.j0 k false l0_0 a0_1 a0_2)))) = some r := H
      have A13 := Aside0.mk A130
      clear A130
      by_cases c14 : t174 = true
      · subst c14
        have H1 : (some 7) = some r := by rw [if_pos rfl] at H; exact H
        clear H
        have H := H1
        clear H1
        obtain rfl := Option.some.inj H
        go_enter Try.func15, Try.ntmps15
        go_wp2_with (first | ((with_reducible refine gate_dst (N := 3) rfl ?_); (try (refine gate_guard (by rfl) ?_; dsimp only)); refine box_event ?hg (N := 3) ?hd (cs := #[.slice A0_0 l0_0.length c0_0, .int .u64 a0_1, .int .u64 a0_2]) (t := 25) ?hr ?_; (case hd => rfl); (case hg => rfl); (case hr => first | (go_simp; done) | (go_simp; rfl)); intro gb169 hg w15 hbox hb; have n0_ := Aside0.mk (below_step (wb_ HB.out) hb); have n1_ := Aside0.mk (hbox); have n2_ := Aside0.mk ((by rw [hg]; exact (below_size (wb_ HB.out)) : w.heap.size ≤ gb169)); have n3_ := Aside0.mk ((by rw [hg]; exact (below_size (wb_ HB.out)) : w.heap.size ≤ gb169)); clear HB; have HB := n0_; have BK169 := n1_; have GW169 := n2_; have GE169 := n3_; clear n0_ n1_ n2_ n3_; clear hb hbox hg; have hcz16_0 : w15.cell? ⟨gb169, 0, none⟩ = some (.slice A0_0 l0_0.length c0_0) := (blk_cell BK169.out 0).trans rfl; have hcz16_1 : w15.cell? ⟨gb169, 1, none⟩ = some (.int .u64 a0_1) := (blk_cell BK169.out 1).trans rfl; have hcz16_2 : w15.cell? ⟨gb169, 2, none⟩ = some (.int .u64 a0_2) := (blk_cell BK169.out 2).trans rfl; have hfz16_0 := blk_frozen BK169.out 0; have hfz16_1 := blk_frozen BK169.out 1; have hfz16_2 := blk_frozen BK169.out 2) | ((with_reducible refine gate_callee (f := 11) rfl ?_); refine goesL_ (some 9) rfl rfl Try.func11 (by kernel_rfl) rfl #[.agg #[.slice A0_0 l0_0.length c0_0, .int .u64 a0_1, .int .u64 a0_2]] rfl (by (try simp only [List.map_toArray, List.map_cons, List.map_nil]); first | done | rfl | (simp only [List.length_drop, List.length_take]; rfl) | (simp [Act.eval]; omega)) ?_; (with_reducible refine (demurralref16_Right.calls k _ _ l0_0 a0_1 a0_2 true _ ?side1 ?side2 A4.out).mono ?_); (case side1 => repeat (first | exact (Kd.C_below HR0_0.out HB.out) | (with_reducible refine Kd.C_alloc ?_ _) | (with_reducible refine Kd.C_drewN ?_ _) | (with_reducible refine Kd.C_drew ?_))); (case side2 => exact HC0_0.out); rintro e w17 ⟨rfl, hb⟩; refine ⟨_, rfl, ?_⟩; have n0_ := Aside0.mk (blk_below (g := gb169) (o := .cells #[.slice A0_0 l0_0.length c0_0, .int .u64 a0_1, .int .u64 a0_2] 25 (0, 0)) (vb_ BK169.out) hb); have n1_ := Aside0.mk (below_step (by repeat (first | (with_reducible first | exact HB.out | apply below_alloc | apply pw_below_drewN | apply below_drew1 | refine below_set ?_ GE169.out) | exact HB.out)) hb); clear BK169; clear HB; have BK169 := n0_; have HB := n1_; clear n0_ n1_; (try clear hb); (try clear hb2); (try clear hk); (try clear hi); have hcz18_0 : w17.cell? ⟨gb169, 0, none⟩ = some (.slice A0_0 l0_0.length c0_0) := (blk_cell BK169.out 0).trans rfl; have hcz18_1 : w17.cell? ⟨gb169, 1, none⟩ = some (.int .u64 a0_1) := (blk_cell BK169.out 1).trans rfl; have hcz18_2 : w17.cell? ⟨gb169, 2, none⟩ = some (.int .u64 a0_2) := (blk_cell BK169.out 2).trans rfl; have hfz18_0 := blk_frozen BK169.out 0; have hfz18_1 := blk_frozen BK169.out 1; have hfz18_2 := blk_frozen BK169.out 2) | ((with_reducible refine gate_callee (f := 21) rfl ?_); refine goesL_ (some 13) rfl rfl Try.func21 (by kernel_rfl) rfl #[.agg #[.slice A0_0 l0_0.length c0_0, .int .u64 a0_1, .int .u64 a0_2], .int .u64 a1] rfl (by (try simp only [List.map_toArray, List.map_cons, List.map_nil]); first | done | rfl | (simp only [List.length_drop, List.length_take]; rfl) | (simp [Act.eval]; omega)) ?_; (with_reducible refine (demurralref16_Mails.calls k (fun k_ => k_ < w.heap.size) _ _ l0_0 a0_1 a0_2 a1 t171 _ ?side1 A6.out).mono ?_); (case side1 => exact Kd.V_mk HC0_0.out (Kd.F_below (Kd.C_F k57_heap HR0_0.out) (by repeat (first | (with_reducible first | exact HB.out | apply below_alloc | apply pw_below_drewN | apply below_drew1 | refine below_set ?_ GE169.out) | exact HB.out)))); rintro e w19 ⟨v172, rfl, ho0, hb⟩; refine ⟨_, rfl, ?_⟩; have n0_ := Aside0.mk (Kd.V_lower (Kd.V_mono (ok' := fun k_ => k_ ≠ gb169) ho0 (fun k_ hk_ => Or.elim hk_ (fun hs_ => fun e_ => Nat.not_le.2 hs_ (by rw [e_]; exact GW169.out)) (fun hn_ => (Kd.freshB (g := gb169) (o := .cells #[.slice A0_0 l0_0.length c0_0, .int .u64 a0_1, .int .u64 a0_2] 25 (0, 0)) (vb_ BK169.out) k_ hn_)))) (below_size (by repeat (first | (with_reducible first | exact HB.out | apply below_alloc | apply pw_below_drewN | apply below_drew1 | refine below_set ?_ GE169.out) | exact HB.out)))); have n1_ := Aside0.mk (blk_below (g := gb169) (o := .cells #[.slice A0_0 l0_0.length c0_0, .int .u64 a0_1, .int .u64 a0_2] 25 (0, 0)) (vb_ BK169.out) hb); have n2_ := Aside0.mk (below_step (by repeat (first | (with_reducible first | exact HB.out | apply below_alloc | apply pw_below_drewN | apply below_drew1 | refine below_set ?_ GE169.out) | exact HB.out)) hb); clear BK169; clear HB; have HO173 := n0_; have BK169 := n1_; have HB := n2_; clear n0_ n1_ n2_; (try clear hb); (try clear hb2); (try clear hk); (try clear hi); (try clear ho0); obtain ⟨Ao20, co20, eo20⟩ := Kd.V_slice HO173.out; subst eo20) | ((with_reducible refine gate_callee (f := 39) rfl ?_); refine goesL_ (some 19) rfl rfl Try.func39 (by kernel_rfl) rfl #[.slice Ao20 t171.length co20, .string a2] rfl (by (try simp only [List.map_toArray, List.map_cons, List.map_nil]); first | done | rfl | (simp only [List.length_drop, List.length_take]; rfl) | (simp [Act.eval]; omega)) ?_; (with_reducible refine (demurralref16_has.calls k _ _ t171 a2 true _ ?side1 ?side2 A13.out).mono ?_); (case side1 => repeat (first | exact (Kd.V_reads' HO173.out).2.2 | (with_reducible refine Kd.C_alloc ?_ _) | (with_reducible refine Kd.C_drewN ?_ _) | (with_reducible refine Kd.C_drew ?_))); (case side2 => exact (Kd.V_reads' HO173.out).2.1); rintro e w21 ⟨rfl, hb⟩; refine ⟨_, rfl, ?_⟩; have n0_ := Aside0.mk (Kd.V_below (kV_ HO173.out) hb); have n1_ := Aside0.mk (blk_below (g := gb169) (o := .cells #[.slice A0_0 l0_0.length c0_0, .int .u64 a0_1, .int .u64 a0_2] 25 (0, 0)) (vb_ BK169.out) hb); have n2_ := Aside0.mk (below_step (by repeat (first | (with_reducible first | exact HB.out | apply below_alloc | apply pw_below_drewN | apply below_drew1 | refine below_set ?_ GE169.out) | exact HB.out)) hb); clear HO173; clear BK169; clear HB; have HO173 := n0_; have BK169 := n1_; have HB := n2_; clear n0_ n1_ n2_; (try clear hb); (try clear hb2); (try clear hk); (try clear hi)))
        go_ret
        exact ⟨by first | rfl | (simp [errW_none, errW_some] <;> rfl) | (simp [*, errW_none, errW_some] <;> rfl), by repeat (first | (with_reducible first | exact HB.out | apply below_alloc | apply pw_below_drewN | apply below_drew1 | refine below_set ?_ GE169.out) | exact HB.out)⟩
      · replace c14 := Bool.eq_false_iff.mpr c14
        subst c14
        have H1 : (if (t171.length : Int) = 16 then (demurralref16_Why.j0 k true l0_0 a0_1 a0_2) else (if (t171.length : Int) = 0 then (demurralref16_Why.j0 k ((l0_0.length : Int) == 8) l0_0 a0_1 a0_2) else (demurralref16_Why.j0 k false l0_0 a0_1 a0_2))) = some r := by rw [if_neg (show ¬ (false = true) by decide)] at H; exact H
        clear H
        have H := H1
        clear H1
        have HC22 := Aside0.mk H
        clear H
        go_enter Try.func15, Try.ntmps15
        go_upto_region 8 with (first | ((with_reducible refine gate_dst (N := 3) rfl ?_); (try (refine gate_guard (by rfl) ?_; dsimp only)); refine box_event ?hg (N := 3) ?hd (cs := #[.slice A0_0 l0_0.length c0_0, .int .u64 a0_1, .int .u64 a0_2]) (t := 25) ?hr ?_; (case hd => rfl); (case hg => rfl); (case hr => first | (go_simp; done) | (go_simp; rfl)); intro gb169 hg w23 hbox hb; have n0_ := Aside0.mk (below_step (wb_ HB.out) hb); have n1_ := Aside0.mk (hbox); have n2_ := Aside0.mk ((by rw [hg]; exact (below_size (wb_ HB.out)) : w.heap.size ≤ gb169)); have n3_ := Aside0.mk ((by rw [hg]; exact (below_size (wb_ HB.out)) : w.heap.size ≤ gb169)); clear HB; have HB := n0_; have BK169 := n1_; have GW169 := n2_; have GE169 := n3_; clear n0_ n1_ n2_ n3_; clear hb hbox hg; have hcz24_0 : w23.cell? ⟨gb169, 0, none⟩ = some (.slice A0_0 l0_0.length c0_0) := (blk_cell BK169.out 0).trans rfl; have hcz24_1 : w23.cell? ⟨gb169, 1, none⟩ = some (.int .u64 a0_1) := (blk_cell BK169.out 1).trans rfl; have hcz24_2 : w23.cell? ⟨gb169, 2, none⟩ = some (.int .u64 a0_2) := (blk_cell BK169.out 2).trans rfl; have hfz24_0 := blk_frozen BK169.out 0; have hfz24_1 := blk_frozen BK169.out 1; have hfz24_2 := blk_frozen BK169.out 2) | ((with_reducible refine gate_callee (f := 11) rfl ?_); refine goesL_ (some 9) rfl rfl Try.func11 (by kernel_rfl) rfl #[.agg #[.slice A0_0 l0_0.length c0_0, .int .u64 a0_1, .int .u64 a0_2]] rfl (by (try simp only [List.map_toArray, List.map_cons, List.map_nil]); first | done | rfl | (simp only [List.length_drop, List.length_take]; rfl) | (simp [Act.eval]; omega)) ?_; (with_reducible refine (demurralref16_Right.calls k _ _ l0_0 a0_1 a0_2 true _ ?side1 ?side2 A4.out).mono ?_); (case side1 => repeat (first | exact (Kd.C_below HR0_0.out HB.out) | (with_reducible refine Kd.C_alloc ?_ _) | (with_reducible refine Kd.C_drewN ?_ _) | (with_reducible refine Kd.C_drew ?_))); (case side2 => exact HC0_0.out); rintro e w25 ⟨rfl, hb⟩; refine ⟨_, rfl, ?_⟩; have n0_ := Aside0.mk (blk_below (g := gb169) (o := .cells #[.slice A0_0 l0_0.length c0_0, .int .u64 a0_1, .int .u64 a0_2] 25 (0, 0)) (vb_ BK169.out) hb); have n1_ := Aside0.mk (below_step (by repeat (first | (with_reducible first | exact HB.out | apply below_alloc | apply pw_below_drewN | apply below_drew1 | refine below_set ?_ GE169.out) | exact HB.out)) hb); clear BK169; clear HB; have BK169 := n0_; have HB := n1_; clear n0_ n1_; (try clear hb); (try clear hb2); (try clear hk); (try clear hi); have hcz26_0 : w25.cell? ⟨gb169, 0, none⟩ = some (.slice A0_0 l0_0.length c0_0) := (blk_cell BK169.out 0).trans rfl; have hcz26_1 : w25.cell? ⟨gb169, 1, none⟩ = some (.int .u64 a0_1) := (blk_cell BK169.out 1).trans rfl; have hcz26_2 : w25.cell? ⟨gb169, 2, none⟩ = some (.int .u64 a0_2) := (blk_cell BK169.out 2).trans rfl; have hfz26_0 := blk_frozen BK169.out 0; have hfz26_1 := blk_frozen BK169.out 1; have hfz26_2 := blk_frozen BK169.out 2) | ((with_reducible refine gate_callee (f := 21) rfl ?_); refine goesL_ (some 13) rfl rfl Try.func21 (by kernel_rfl) rfl #[.agg #[.slice A0_0 l0_0.length c0_0, .int .u64 a0_1, .int .u64 a0_2], .int .u64 a1] rfl (by (try simp only [List.map_toArray, List.map_cons, List.map_nil]); first | done | rfl | (simp only [List.length_drop, List.length_take]; rfl) | (simp [Act.eval]; omega)) ?_; (with_reducible refine (demurralref16_Mails.calls k (fun k_ => k_ < w.heap.size) _ _ l0_0 a0_1 a0_2 a1 t171 _ ?side1 A6.out).mono ?_); (case side1 => exact Kd.V_mk HC0_0.out (Kd.F_below (Kd.C_F k57_heap HR0_0.out) (by repeat (first | (with_reducible first | exact HB.out | apply below_alloc | apply pw_below_drewN | apply below_drew1 | refine below_set ?_ GE169.out) | exact HB.out)))); rintro e w27 ⟨v172, rfl, ho0, hb⟩; refine ⟨_, rfl, ?_⟩; have n0_ := Aside0.mk (Kd.V_lower (Kd.V_mono (ok' := fun k_ => k_ ≠ gb169) ho0 (fun k_ hk_ => Or.elim hk_ (fun hs_ => fun e_ => Nat.not_le.2 hs_ (by rw [e_]; exact GW169.out)) (fun hn_ => (Kd.freshB (g := gb169) (o := .cells #[.slice A0_0 l0_0.length c0_0, .int .u64 a0_1, .int .u64 a0_2] 25 (0, 0)) (vb_ BK169.out) k_ hn_)))) (below_size (by repeat (first | (with_reducible first | exact HB.out | apply below_alloc | apply pw_below_drewN | apply below_drew1 | refine below_set ?_ GE169.out) | exact HB.out)))); have n1_ := Aside0.mk (blk_below (g := gb169) (o := .cells #[.slice A0_0 l0_0.length c0_0, .int .u64 a0_1, .int .u64 a0_2] 25 (0, 0)) (vb_ BK169.out) hb); have n2_ := Aside0.mk (below_step (by repeat (first | (with_reducible first | exact HB.out | apply below_alloc | apply pw_below_drewN | apply below_drew1 | refine below_set ?_ GE169.out) | exact HB.out)) hb); clear BK169; clear HB; have HO173 := n0_; have BK169 := n1_; have HB := n2_; clear n0_ n1_ n2_; (try clear hb); (try clear hb2); (try clear hk); (try clear hi); (try clear ho0); obtain ⟨Ao28, co28, eo28⟩ := Kd.V_slice HO173.out; subst eo28) | ((with_reducible refine gate_callee (f := 39) rfl ?_); refine goesL_ (some 19) rfl rfl Try.func39 (by kernel_rfl) rfl #[.slice Ao28 t171.length co28, .string a2] rfl (by (try simp only [List.map_toArray, List.map_cons, List.map_nil]); first | done | rfl | (simp only [List.length_drop, List.length_take]; rfl) | (simp [Act.eval]; omega)) ?_; (with_reducible refine (demurralref16_has.calls k _ _ t171 a2 false _ ?side1 ?side2 A13.out).mono ?_); (case side1 => repeat (first | exact (Kd.V_reads' HO173.out).2.2 | (with_reducible refine Kd.C_alloc ?_ _) | (with_reducible refine Kd.C_drewN ?_ _) | (with_reducible refine Kd.C_drew ?_))); (case side2 => exact (Kd.V_reads' HO173.out).2.1); rintro e w29 ⟨rfl, hb⟩; refine ⟨_, rfl, ?_⟩; have n0_ := Aside0.mk (Kd.V_below (kV_ HO173.out) hb); have n1_ := Aside0.mk (blk_below (g := gb169) (o := .cells #[.slice A0_0 l0_0.length c0_0, .int .u64 a0_1, .int .u64 a0_2] 25 (0, 0)) (vb_ BK169.out) hb); have n2_ := Aside0.mk (below_step (by repeat (first | (with_reducible first | exact HB.out | apply below_alloc | apply pw_below_drewN | apply below_drew1 | refine below_set ?_ GE169.out) | exact HB.out)) hb); clear HO173; clear BK169; clear HB; have HO173 := n0_; have BK169 := n1_; have HB := n2_; clear n0_ n1_ n2_; (try clear hb); (try clear hb2); (try clear hk); (try clear hi)))
        (try simp only [Act.put, List.setIfInBounds_toArray, List.set_cons_zero, List.set_cons_succ])
        go_cut [33] (fun v33 wc => ∃ (kq : Nat) (x33_21 : Bool), v33 = .bool x33_21 ∧ Aside0 (demurralref16_Why.j0 kq x33_21 l0_0 a0_1 a0_2 = some r) ∧ Aside0 (kq ≤ k) ∧ Aside0 (wc.heap[gb169]? = some (.cells #[(.slice A0_0 l0_0.length c0_0), .int .u64 a0_1, .int .u64 a0_2] 25 (0, 0))) ∧ Aside0 (Below w.heap.size w wc))
        case first =>
          have H := HC22.out
          clear HC22
          by_cases c30 : (t171.length : Int) = 16
          · rw [if_pos c30] at H
            have c30b0 : ((t171.length : Int) == 16) = true := beq_iff_eq.mpr c30
            have c30b1 : ((t171.length : Int) != 16) = false := bne_eq_false_iff_eq.mpr c30
            clear c30
            (first | rw [c30b0] | (simp only [i64_w, i32_w]; rw [c30b0]) | skip)
            have H' := Aside0.mk H
            clear H
            go_wp2
            go_meet
            case rel => exact ⟨_, (true), (by first | rfl | (simp; done) | (simp [*]; done)), H', ⟨by first | omega | exact Nat.le_refl _⟩, ⟨by (with_reducible repeat (first | refine blk_drewN ?_ _ | refine blk_drew ?_ | refine blk_alloc ?_ _)); exact BK169.out⟩, ⟨by repeat (first | (with_reducible first | exact HB.out | apply below_alloc | apply pw_below_drewN | apply below_drew1 | refine below_set ?_ GE169.out) | exact HB.out)⟩⟩
          · rw [if_neg c30] at H
            have c30b0 : ((t171.length : Int) == 16) = false := beq_eq_false_iff_ne.mpr c30
            have c30b1 : ((t171.length : Int) != 16) = true := bne_iff_ne.mpr c30
            (first | rw [c30b0] | (simp only [i64_w, i32_w]; rw [c30b0]) | skip)
            by_cases c31 : (t171.length : Int) = 0
            · rw [if_pos c31] at H
              have c31b0 : ((t171.length : Int) == 0) = true := beq_iff_eq.mpr c31
              have c31b1 : ((t171.length : Int) != 0) = false := bne_eq_false_iff_eq.mpr c31
              clear c31
              have H' := Aside0.mk H
              clear H
              have hcz32_0 : w29.cell? ⟨gb169, 0, none⟩ = some (.slice A0_0 l0_0.length c0_0) := (blk_cell BK169.out 0).trans rfl
              have hcz32_1 : w29.cell? ⟨gb169, 1, none⟩ = some (.int .u64 a0_1) := (blk_cell BK169.out 1).trans rfl
              have hcz32_2 : w29.cell? ⟨gb169, 2, none⟩ = some (.int .u64 a0_2) := (blk_cell BK169.out 2).trans rfl
              have hfz32_0 := blk_frozen BK169.out 0
              have hfz32_1 := blk_frozen BK169.out 1
              have hfz32_2 := blk_frozen BK169.out 2
              go_wp2
              go_meet
              case rel => exact ⟨_, (((l0_0.length : Int) == 8)), (by first | rfl | (simp; done) | (simp [*]; done)), H', ⟨by first | omega | exact Nat.le_refl _⟩, ⟨by (with_reducible repeat (first | refine blk_drewN ?_ _ | refine blk_drew ?_ | refine blk_alloc ?_ _)); exact BK169.out⟩, ⟨by repeat (first | (with_reducible first | exact HB.out | apply below_alloc | apply pw_below_drewN | apply below_drew1 | refine below_set ?_ GE169.out) | exact HB.out)⟩⟩
            · rw [if_neg c31] at H
              have c31b0 : ((t171.length : Int) == 0) = false := beq_eq_false_iff_ne.mpr c31
              have c31b1 : ((t171.length : Int) != 0) = true := bne_iff_ne.mpr c31
              have c31b2 : ¬ (t171 = []) := fun h_ => c31 (by rw [h_]; rfl)
              have H' := Aside0.mk H
              clear H
              go_wp2
              go_meet
              case rel => exact ⟨_, (false), (by first | rfl | (simp; done) | (simp [*]; done)), H', ⟨by first | omega | exact Nat.le_refl _⟩, ⟨by (with_reducible repeat (first | refine blk_drewN ?_ _ | refine blk_drew ?_ | refine blk_alloc ?_ _)); exact BK169.out⟩, ⟨by repeat (first | (with_reducible first | exact HB.out | apply below_alloc | apply pw_below_drewN | apply below_drew1 | refine below_set ?_ GE169.out) | exact HB.out)⟩⟩
        case rest =>
          clear HC22
          try clear c1
          try clear c2
          try clear p2
          try clear c3
          try clear c5
          try clear c7
          try clear c7b0
          try clear c7b1
          try clear c11
          try clear c14
          try clear c15
          try clear c21
          try clear c30
          try clear c30b0
          try clear c30b1
          try clear c31
          try clear c31b0
          try clear c31b1
          try clear c31b2
          try clear hcz11_0
          try clear hcz11_1
          try clear hcz11_2
          try clear hcz16_0
          try clear hcz16_1
          try clear hcz16_2
          try clear hcz18_0
          try clear hcz18_1
          try clear hcz18_2
          try clear hcz24_0
          try clear hcz24_1
          try clear hcz24_2
          try clear hcz26_0
          try clear hcz26_1
          try clear hcz26_2
          try clear hcz32_0
          try clear hcz32_1
          try clear hcz32_2
          try clear hcz9_0
          try clear hcz9_1
          try clear hcz9_2
          try clear hfz11_0
          try clear hfz11_1
          try clear hfz11_2
          try clear hfz16_0
          try clear hfz16_1
          try clear hfz16_2
          try clear hfz18_0
          try clear hfz18_1
          try clear hfz18_2
          try clear hfz24_0
          try clear hfz24_1
          try clear hfz24_2
          try clear hfz26_0
          try clear hfz26_1
          try clear hfz26_2
          try clear hfz32_0
          try clear hfz32_1
          try clear hfz32_2
          try clear hfz9_0
          try clear hfz9_1
          try clear hfz9_2
          obtain ⟨kq, x33_21, rfl, HA, HJ21, BK169, HB⟩ := hcut
          cases kq with
          | zero => exact absurd HA.out (by simp [demurralref16_Why.j0])
          | succ kj21 =>
            have H := HA.out
            clear HA
            simp only [demurralref16_Why.j0] at H
            by_cases c33 : x33_21 = true
            · subst c33
              have H1 : (some 6) = some r := by rw [if_pos rfl] at H; exact H
              clear H
              have H := H1
              clear H1
              obtain rfl := Option.some.inj H
              go_wp2
              go_ret
              exact ⟨by first | rfl | (simp [errW_none, errW_some] <;> rfl) | (simp [*, errW_none, errW_some] <;> rfl), by repeat (first | (with_reducible first | exact HB.out | apply below_alloc | apply pw_below_drewN | apply below_drew1 | refine below_set ?_ GE169.out) | exact HB.out)⟩
            · replace c33 := Bool.eq_false_iff.mpr c33
              subst c33
              have H1 : (if a0_2 = 4611686018427387903 then (some 1) else (some 0)) = some r := by rw [if_neg (show ¬ (false = true) by decide)] at H; exact H
              clear H
              have H := H1
              clear H1
              by_cases c34 : a0_2 = 4611686018427387903
              · rw [if_pos c34] at H
                have c34b0 : (a0_2 == 4611686018427387903) = true := beq_iff_eq.mpr c34
                have c34b1 : (a0_2 != 4611686018427387903) = false := bne_eq_false_iff_eq.mpr c34
                clear c34
                obtain rfl := Option.some.inj H
                have hcz35_0 : wc.cell? ⟨gb169, 0, none⟩ = some (.slice A0_0 l0_0.length c0_0) := (blk_cell BK169.out 0).trans rfl
                have hcz35_1 : wc.cell? ⟨gb169, 1, none⟩ = some (.int .u64 a0_1) := (blk_cell BK169.out 1).trans rfl
                have hcz35_2 : wc.cell? ⟨gb169, 2, none⟩ = some (.int .u64 a0_2) := (blk_cell BK169.out 2).trans rfl
                have hfz35_0 := blk_frozen BK169.out 0
                have hfz35_1 := blk_frozen BK169.out 1
                have hfz35_2 := blk_frozen BK169.out 2
                go_wp2
                go_ret
                exact ⟨by first | rfl | (simp [errW_none, errW_some] <;> rfl) | (simp [*, errW_none, errW_some] <;> rfl), by repeat (first | (with_reducible first | exact HB.out | apply below_alloc | apply pw_below_drewN | apply below_drew1 | refine below_set ?_ GE169.out) | exact HB.out)⟩
              · rw [if_neg c34] at H
                have c34b0 : (a0_2 == 4611686018427387903) = false := beq_eq_false_iff_ne.mpr c34
                have c34b1 : (a0_2 != 4611686018427387903) = true := bne_iff_ne.mpr c34
                obtain rfl := Option.some.inj H
                have hcz36_0 : wc.cell? ⟨gb169, 0, none⟩ = some (.slice A0_0 l0_0.length c0_0) := (blk_cell BK169.out 0).trans rfl
                have hcz36_1 : wc.cell? ⟨gb169, 1, none⟩ = some (.int .u64 a0_1) := (blk_cell BK169.out 1).trans rfl
                have hcz36_2 : wc.cell? ⟨gb169, 2, none⟩ = some (.int .u64 a0_2) := (blk_cell BK169.out 2).trans rfl
                have hfz36_0 := blk_frozen BK169.out 0
                have hfz36_1 := blk_frozen BK169.out 1
                have hfz36_2 := blk_frozen BK169.out 2
                go_wp2
                go_ret
                exact ⟨by first | rfl | (simp [errW_none, errW_some] <;> rfl) | (simp [*, errW_none, errW_some] <;> rfl), by repeat (first | (with_reducible first | exact HB.out | apply below_alloc | apply pw_below_drewN | apply below_drew1 | refine below_set ?_ GE169.out) | exact HB.out)⟩
  · replace c5 := Bool.eq_false_iff.mpr c5
    subst c5
    have H1 : (some 1) = some r := by rw [if_neg (show ¬ (false = true) by decide)] at H; exact H
    clear H
    have H := H1
    clear H1
    obtain rfl := Option.some.inj H
    go_enter Try.func15, Try.ntmps15
    go_wp2_with (first | ((with_reducible refine gate_dst (N := 3) rfl ?_); (try (refine gate_guard (by rfl) ?_; dsimp only)); refine box_event ?hg (N := 3) ?hd (cs := #[.slice A0_0 l0_0.length c0_0, .int .u64 a0_1, .int .u64 a0_2]) (t := 25) ?hr ?_; (case hd => rfl); (case hg => rfl); (case hr => first | (go_simp; done) | (go_simp; rfl)); intro gb169 hg w37 hbox hb; have n0_ := Aside0.mk (below_step (wb_ HB.out) hb); have n1_ := Aside0.mk (hbox); have n2_ := Aside0.mk ((by rw [hg]; exact (below_size (wb_ HB.out)) : w.heap.size ≤ gb169)); have n3_ := Aside0.mk ((by rw [hg]; exact (below_size (wb_ HB.out)) : w.heap.size ≤ gb169)); clear HB; have HB := n0_; have BK169 := n1_; have GW169 := n2_; have GE169 := n3_; clear n0_ n1_ n2_ n3_; clear hb hbox hg; have hcz38_0 : w37.cell? ⟨gb169, 0, none⟩ = some (.slice A0_0 l0_0.length c0_0) := (blk_cell BK169.out 0).trans rfl; have hcz38_1 : w37.cell? ⟨gb169, 1, none⟩ = some (.int .u64 a0_1) := (blk_cell BK169.out 1).trans rfl; have hcz38_2 : w37.cell? ⟨gb169, 2, none⟩ = some (.int .u64 a0_2) := (blk_cell BK169.out 2).trans rfl; have hfz38_0 := blk_frozen BK169.out 0; have hfz38_1 := blk_frozen BK169.out 1; have hfz38_2 := blk_frozen BK169.out 2) | ((with_reducible refine gate_callee (f := 11) rfl ?_); refine goesL_ (some 9) rfl rfl Try.func11 (by kernel_rfl) rfl #[.agg #[.slice A0_0 l0_0.length c0_0, .int .u64 a0_1, .int .u64 a0_2]] rfl (by (try simp only [List.map_toArray, List.map_cons, List.map_nil]); first | done | rfl | (simp only [List.length_drop, List.length_take]; rfl) | (simp [Act.eval]; omega)) ?_; (with_reducible refine (demurralref16_Right.calls k _ _ l0_0 a0_1 a0_2 false _ ?side1 ?side2 A4.out).mono ?_); (case side1 => repeat (first | exact (Kd.C_below HR0_0.out HB.out) | (with_reducible refine Kd.C_alloc ?_ _) | (with_reducible refine Kd.C_drewN ?_ _) | (with_reducible refine Kd.C_drew ?_))); (case side2 => exact HC0_0.out); rintro e w39 ⟨rfl, hb⟩; refine ⟨_, rfl, ?_⟩; have n0_ := Aside0.mk (blk_below (g := gb169) (o := .cells #[.slice A0_0 l0_0.length c0_0, .int .u64 a0_1, .int .u64 a0_2] 25 (0, 0)) (vb_ BK169.out) hb); have n1_ := Aside0.mk (below_step (by repeat (first | (with_reducible first | exact HB.out | apply below_alloc | apply pw_below_drewN | apply below_drew1 | refine below_set ?_ GE169.out) | exact HB.out)) hb); clear BK169; clear HB; have BK169 := n0_; have HB := n1_; clear n0_ n1_; (try clear hb); (try clear hb2); (try clear hk); (try clear hi)))
    go_ret
    exact ⟨by first | rfl | (simp [errW_none, errW_some] <;> rfl) | (simp [*, errW_none, errW_some] <;> rfl), by repeat (first | (with_reducible first | exact HB.out | apply below_alloc | apply pw_below_drewN | apply below_drew1 | refine below_set ?_ GE169.out) | exact HB.out)⟩

end Go.Proofs.Ytbmfcikjhnnnbaa.Q
