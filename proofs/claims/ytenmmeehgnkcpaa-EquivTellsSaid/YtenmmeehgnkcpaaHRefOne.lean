/- The document's one and two of layer 22: the recipes of a place, of two places.
   Conditions: the list and the recipes are read as such; the places lie in the list. -/
import Derived.Test.YtenmmeehgnkcpaaHStep
import Derived.Test.YtenmmeehgnkcpaaHRefBase
namespace Go.Proofs.Ytenmmeehgnkcpaa.Q
open Go.RowKit Go.Proofs.YtenmmeehgnkcpaaW.PrintWords Go.Proofs.YtenmmeehgnkcpaaW.PrintLast Go.Proofs.YtenmmeehgnkcpaaW.PrintMore
set_option linter.unusedVariables false
set_option linter.unusedSimpArgs false

set_option maxHeartbeats 4000000 in
set_option maxRecDepth 100000 in
theorem oneV_calls (r : R3) (A : Option Addr) (c : Nat) (B : Option Addr) (d : Nat) (x : Nat) (w : World) (hc : r.1.length ≤ c) (hd : r.2.1.length ≤ d) (hC : k28.C w A r.1.length r.1) (hP : (Kd.int .i64).C w B r.2.1.length r.2.1) (hl : r.1.length ≤ 90000 ∧ r.2.1.length ≤ 90000) (hx : x < r.1.length) :
    Calls Try.prog 57 #[.agg #[.slice A r.1.length c, .slice B r.2.1.length d, .int .i64 r.2.2], .int .i64 (x : Int)] w fun e w' => (∃ v, e = .returned v ∧ InR3 w' (oneV r x) v) ∧ Below w.heap.size w w' := by
  obtain ⟨w1, hw1⟩ : ∃ w1, w.alloc (.cells #[.slice A r.1.length c, .slice B r.2.1.length d, .int .i64 r.2.2] 56 (0, 0)) = w1 := ⟨_, rfl⟩
  have hb1 : Below w.heap.size w w1 := by rw [← hw1]; exact below_alloc (Below.refl _ _) _
  have hK1 : w1.heap[w.heap.size]? = some (.cells #[.slice A r.1.length c, .slice B r.2.1.length d, .int .i64 r.2.2] 56 (0, 0)) := by rw [← hw1]; exact heap_alloc_new _ _
  obtain ⟨w2, hw2⟩ : ∃ w2, w1.alloc (.cells #[.slice none 0 0, .slice none 0 0, .int .i64 0] 56 (0, 0)) = w2 := ⟨_, rfl⟩
  have hb2 : Below w1.heap.size w1 w2 := by rw [← hw2]; exact below_alloc (Below.refl _ _) _
  have hO2 : w2.heap[w1.heap.size]? = some (.cells #[.slice none 0 0, .slice none 0 0, .int .i64 0] 56 (0, 0)) := by rw [← hw2]; exact heap_alloc_new _ _
  have hK2 := (hb2.block _ (blk_lt hK1)).trans hK1
  obtain ⟨w3, hw3⟩ : ∃ w3, w2.alloc (.cells #[.int .i64 0, .int .u64 0, .int .i64 0, .int .i64 0] 28 (0, 0)) = w3 := ⟨_, rfl⟩
  have hb3 : Below w2.heap.size w2 w3 := by rw [← hw3]; exact below_alloc (Below.refl _ _) _
  have hT3 : w3.heap[w2.heap.size]? = some (.cells #[.int .i64 0, .int .u64 0, .int .i64 0, .int .i64 0] 28 (0, 0)) := by rw [← hw3]; exact heap_alloc_new _ _
  have hK3 := (hb3.block _ (blk_lt hK2)).trans hK2
  have hO3 := (hb3.block _ (blk_lt hO2)).trans hO2
  have hB2 : Below w.heap.size w w2 := below_step hb1 hb2
  have hB3 : Below w.heap.size w w3 := below_step hB2 hb3
  have ho : w.heap.size < w1.heap.size ∧ w1.heap.size < w2.heap.size := ⟨blk_lt hK1, blk_lt hO2⟩
  obtain ⟨ad, rfl, e0, e1, e2, e3⟩ := at_T28 (Kd.C_below hC hB2) (x : Int) (by omega) (by omega)
  rw [Int.toNat_natCast] at e0 e1 e2 e3
  have hans : oneV r x = oneT r (rd_T28 r.1 (x : Int)) x := rfl
  generalize rd_T28 r.1 (x : Int) = t at hans e0 e1 e2 e3
  have x0 := (box3 hK2).1
  clear hK1 hK2 hb1 hb2 hb3 hO2
  replace hC := Aside0.mk hC
  replace hP := Aside0.mk hP
  unfold oneT at hans
  replace hans := Lib.hid hans
  obtain ⟨s, hs⟩ : ∃ s, w2.heap.size = s := ⟨_, rfl⟩
  obtain ⟨o, hoe⟩ : ∃ o, w1.heap.size = o := ⟨_, rfl⟩
  rw [hs, hoe] at ho
  rw [hs] at hT3
  rw [hoe] at hO3
  have hbd0 : r.1.length ≤ 100000 ∧ 0 < r.1.length ∧ r.2.1.length ≤ 100000 := ⟨by omega, by omega, by omega⟩
  have hin0 : r.1.length ≤ 90000 ∧ r.2.1.length ≤ 90000 := hl
  obtain ⟨r1, hr1⟩ : ∃ z, addW r ⟨1, 0, x, 0⟩ = z := ⟨_, rfl⟩
  have hl1 := addW_len r ⟨1, 0, x, 0⟩
  rw [hr1] at hl1
  have hin1 : r1.1.length ≤ 90001 ∧ r1.2.1.length ≤ 90001 := by omega
  have hbd1 : r1.1.length ≤ 100000 ∧ 0 < r1.1.length ∧ r1.2.1.length ≤ 100000 := by omega
  clear hl1
  obtain ⟨r2, hr2⟩ : ∃ z, addW r1 ⟨3, 0, x, 0⟩ = z := ⟨_, rfl⟩
  have hl2 := addW_len r1 ⟨3, 0, x, 0⟩
  rw [hr2] at hl2
  have hin2 : r2.1.length ≤ 90002 ∧ r2.2.1.length ≤ 90002 := by omega
  have hbd2 : r2.1.length ≤ 100000 ∧ 0 < r2.1.length ∧ r2.2.1.length ≤ 100000 := by omega
  clear hl2
  replace hr1 := Lib.hid hr1
  replace hr2 := Lib.hid hr2
  go_enter Try.func57, Try.ntmps57
  go_wp2_with ((with_reducible refine gate_store (t := 28) (p := 5) rfl ?_); go_loud (refine wpList_storeBox rfl rfl 28 (.tmp 5) (.tmp 10) rfl (tv t) [.int .i64 t.f0, .int .u64 t.f1, .int .i64 t.f2, .int .i64 t.f3] rfl rfl rfl (by kernel_rfl) (by simp [Value.oneCell']) hT3 rfl ?_; intro u0 hT0 hg0 hs0; have hK0 := (hg0.block _ (blk_lt hK3) (by simp; omega)).trans hK3; have hO0 := (hg0.block _ (blk_lt hO3) (by simp; omega)).trans hO3; have hB0 := hB3.grown hg0 hB3.size (fun k hk => by injection hk; omega); have hC0 := Kd.C_below hC.out hB0; have hP0 := Kd.C_below hP.out hB0; clear hT3 hK3 hO3 hg0 hs0; obtain ⟨x0, x1, x2⟩ := box3 hK0; obtain ⟨y0, y1, y2, y3⟩ := box4 hT0; have hcall := addW_calls r (some ad) c B d ⟨1, 0, x, 0⟩ u0 hc hd hC0 hP0 hbd0; rw [hr1.out] at hcall; replace hcall := Aside0.mk hcall))
  refine hcall.out.mono ?_; rintro e_ v1 ⟨⟨v_, rfl, A1, c1, B1, d1, rfl, hc1, hd1, hC1, hP1, hR1⟩, hb1⟩
  have hK1 := (hb1.block _ (blk_lt hK0)).trans hK0
  have hT1 := (hb1.block _ (blk_lt hT0)).trans hT0
  have hO1 := (hb1.block _ (blk_lt hO0)).trans hO0
  have hB1 := below_step hB0 hb1
  clear hcall x0 x1 x2 y0 y1 y2 y3 hb1 hK0 hT0 hO0 hB0
  have hcall := addW_calls r1 A1 c1 B1 d1 ⟨3, 0, x, 0⟩ v1 hc1 hd1 hC1 hP1 hbd1; rw [hr2.out] at hcall; replace hcall := Aside0.mk hcall
  obtain ⟨x0, x1, x2⟩ := box3 hK1; obtain ⟨y0, y1, y2, y3⟩ := box4 hT1
  go_wp2_with fail
  refine hcall.out.mono ?_; rintro e_ v2 ⟨⟨v_, rfl, A2, c2, B2, d2, rfl, hc2, hd2, hC2, hP2, hR2⟩, hb2⟩
  have hK2 := (hb2.block _ (blk_lt hK1)).trans hK1
  have hT2 := (hb2.block _ (blk_lt hT1)).trans hT1
  have hO2 := (hb2.block _ (blk_lt hO1)).trans hO1
  have hB2 := below_step hB1 hb2
  clear hcall x0 x1 x2 y0 y1 y2 y3 hb2 hK1 hT1 hO1 hB1
  by_cases h4 : t.f0 = 4
  · have f4 : (t.f0 == 4) = true := beq_iff_eq.2 h4
    obtain ⟨r3, hr3⟩ : ∃ z, putW r2 t.f2 = z := ⟨_, rfl⟩
    have hl3 := putW_len r2 t.f2
    rw [hr3] at hl3
    have hin3 : r3.1.length ≤ 90003 ∧ r3.2.1.length ≤ 90003 := by omega
    have hbd3 : r3.1.length ≤ 100000 ∧ 0 < r3.1.length ∧ r3.2.1.length ≤ 100000 := by omega
    clear hl3
    obtain ⟨r4, hr4⟩ : ∃ z, putW r3 t.f3 = z := ⟨_, rfl⟩
    have hl4 := putW_len r3 t.f3
    rw [hr4] at hl4
    have hin4 : r4.1.length ≤ 90004 ∧ r4.2.1.length ≤ 90004 := by omega
    have hbd4 : r4.1.length ≤ 100000 ∧ 0 < r4.1.length ∧ r4.2.1.length ≤ 100000 := by omega
    clear hl4
    replace hr3 := Lib.hid hr3
    replace hr4 := Lib.hid hr4
    have hfin : Hid (oneV r x = r4) := Lib.hid (by rw [hans.out, if_pos h4, hr1.out, hr2.out, hr3.out, hr4.out])
    replace h4 := Lib.hid h4
    go_wp2_with ((with_reducible refine gate_store (t := 56) (p := 2) rfl ?_); go_loud (refine wpList_storeBox rfl rfl 56 (.tmp 2) (.tmp 17) rfl (.agg #[.slice A2 r2.1.length c2, .slice B2 r2.2.1.length d2, .int .i64 r2.2.2]) [.slice A2 r2.1.length c2, .slice B2 r2.2.1.length d2, .int .i64 r2.2.2] rfl rfl rfl (by kernel_rfl) (by simp [Value.oneCell']) hK2 rfl ?_; intro u2 hN2 hg2 hs2; obtain ⟨hC2, hP2, hR2⟩ := inR3_kept hc2 hd2 hC2 hP2 hR2 (by simp) (by decide) hK2 hg2; have hT2 := (hg2.block _ (blk_lt hT2) (by simp; omega)).trans hT2; have hO2 := (hg2.block _ (blk_lt hO2) (by simp; omega)).trans hO2; have hB2 := hB2.grown hg2 hB2.size (fun k hk => by injection hk; omega); clear hK2 hg2 hs2; have hK2 := hN2; clear hN2; obtain ⟨x0, x1, x2⟩ := box3 hK2; obtain ⟨y0, y1, y2, y3⟩ := box4 hT2))
    have hq4 : Hid (∀ W, Below u2.heap.size u2 W → W.cell? ⟨w.heap.size, 0, none⟩ = some (.slice A2 r2.1.length c2) ∧ W.cell? ⟨w.heap.size, 1, none⟩ = some (.slice B2 r2.2.1.length d2) ∧ W.cell? ⟨w.heap.size, 2, none⟩ = some (.int .i64 r2.2.2) ∧ W.cell? ⟨s, 2, none⟩ = some (.int .i64 t.f2) ∧ W.cell? ⟨s, 3, none⟩ = some (.int .i64 t.f3)) := Lib.hid fun W hW => by
      obtain ⟨a1, a2, a3⟩ := box3 ((hW.block _ (blk_lt hK2)).trans hK2)
      obtain ⟨b0, b1, b2, b3⟩ := box4 ((hW.block _ (blk_lt hT2)).trans hT2)
      exact ⟨a1, a2, a3, b2, b3⟩
    have hp1 : Hid (∀ W, Below u2.heap.size u2 W → Calls Try.prog 71 #[.agg #[.slice A2 r2.1.length c2, .slice B2 r2.2.1.length d2, .int .i64 r2.2.2], .int .i64 t.f2] W fun e w' => (∃ v, e = .returned v ∧ InR3 w' r3 v) ∧ Below W.heap.size W w') := Lib.hid fun W hW => by
      have := putW_calls r2 A2 c2 B2 d2 t.f2 W hc2 hd2 (Kd.C_below hC2 hW) (Kd.C_below hP2 hW) hbd2
      rwa [hr3.out] at this
    have hp2 : Hid (∀ (A3 : Option Addr) (c3 : Nat) (B3 : Option Addr) (d3 : Nat) (W : World), r3.1.length ≤ c3 → r3.2.1.length ≤ d3 → k28.C W A3 r3.1.length r3.1 → (Kd.int .i64).C W B3 r3.2.1.length r3.2.1 → Calls Try.prog 71 #[.agg #[.slice A3 r3.1.length c3, .slice B3 r3.2.1.length d3, .int .i64 r3.2.2], .int .i64 t.f3] W fun e w' => (∃ v, e = .returned v ∧ InR3 w' r4 v) ∧ Below W.heap.size W w') := Lib.hid fun A3 c3 B3 d3 W g1 g2 g3 g4 => by
      have := putW_calls r3 A3 c3 B3 d3 t.f3 W g1 g2 g3 g4 hbd3
      rwa [hr4.out] at this
    clear x0 x1 x2 y0 y1 y2 y3
    refine start_ (n := 8) (S := fun w' => w'.cell? ⟨w.heap.size, 0, none⟩ = some (.slice A2 r2.1.length c2) ∧ w'.cell? ⟨w.heap.size, 1, none⟩ = some (.slice B2 r2.2.1.length d2) ∧ w'.cell? ⟨w.heap.size, 2, none⟩ = some (.int .i64 r2.2.2) ∧ w'.cell? ⟨s, 2, none⟩ = some (.int .i64 t.f2) ∧ w'.cell? ⟨s, 3, none⟩ = some (.int .i64 t.f3)) (ds := [7]) #[false, false, false, false, false, false, false, false] (by kernel_rfl) rfl rfl ⟨(hq4.out _ (Below.refl u2.heap.size u2).drew).1, (hq4.out _ (Below.refl u2.heap.size u2).drew).2.1, (hq4.out _ (Below.refl u2.heap.size u2).drew).2.2.1, (hq4.out _ (Below.refl u2.heap.size u2).drew).2.2.2.1, (hq4.out _ (Below.refl u2.heap.size u2).drew).2.2.2.2⟩ (fun hHeld => ?_)
    refine p_ 1 (some 22) #[false, true, false, false, false, false, false, false] ?_
    refine p_ 4 (some 25) #[false, true, false, false, true, false, false, false] ?_
    refine t_ 0 (some 21) #[true, true, false, false, true, false, false, false] hHeld (hv := by rintro w' ⟨s0, s1, s2, s3, s4⟩; go_simp; with_reducible rfl) (h := ?_)
    refine t_ 2 (some 23) #[true, true, true, false, true, false, false, false] hHeld (hv := by rintro w' ⟨s0, s1, s2, s3, s4⟩; go_simp; with_reducible rfl) (h := ?_)
    refine t_ 5 (some 26) #[true, true, true, false, true, true, false, false] hHeld (hv := by rintro w' ⟨s0, s1, s2, s3, s4⟩; go_simp; with_reducible rfl) (h := ?_)
    refine one_ (i := 3) (N := some 24) #[true, true, true, true, true, true, false, false] rfl rfl (by kernel_rfl) (by decide) (fun K hK => ?_)
    refine goes_ Try.func71 (by kernel_rfl) rfl #[.agg #[.slice A2 r2.1.length c2, .slice B2 r2.2.1.length d2, .int .i64 r2.2.2], .int .i64 t.f2] (by rfl) rfl rfl (by simp only [List.map_toArray, List.map_cons, List.map_nil]; rfl) ?_
    with_reducible refine (hp1.out _ (Below.refl u2.heap.size u2).drew).mono ?_
    rintro e_ w10 ⟨⟨v_, rfl, A3, c3, B3, d3, rfl, g1, g2, g3, g4, g5⟩, hb10⟩
    refine ⟨_, rfl, ?_⟩
    have hb10 := below_step (Below.refl u2.heap.size u2).drew hb10
    refine hK.out _ _ ⟨(hq4.out _ hb10).1, (hq4.out _ hb10).2.1, (hq4.out _ hb10).2.2.1, (hq4.out _ hb10).2.2.2.1, (hq4.out _ hb10).2.2.2.2⟩ (fun hHeld => ?_)
    clear hK K
    refine norm_ (a' := ?_) ?_ ?_
    rotate_left
    · show Act.put _ (some 24) _ = _
      simp only [Act.put, List.setIfInBounds_toArray, List.set_cons_zero, List.set_cons_succ, i64_w, i32_w]
      rfl
    refine one_ (i := 6) (N := some 27) #[true, true, true, true, true, true, true, false] rfl rfl (by kernel_rfl) (by decide) (fun K hK => ?_)
    refine goes_ Try.func71 (by kernel_rfl) rfl #[.agg #[.slice A3 r3.1.length c3, .slice B3 r3.2.1.length d3, .int .i64 r3.2.2], .int .i64 t.f3] (by rfl) rfl rfl (by simp only [List.map_toArray, List.map_cons, List.map_nil]; rfl) ?_
    with_reducible refine (hp2.out A3 c3 B3 d3 _ g1 g2 g3 g4).mono ?_
    rintro e_ w11 ⟨⟨v_, rfl, A4, c4, B4, d4, rfl, k1, k2, k3, k4, k5⟩, hb11⟩
    refine ⟨_, rfl, ?_⟩
    have hb11 := below_step hb10 hb11
    refine hK.out _ _ ⟨(hq4.out _ hb11).1, (hq4.out _ hb11).2.1, (hq4.out _ hb11).2.2.1, (hq4.out _ hb11).2.2.2.1, (hq4.out _ hb11).2.2.2.2⟩ (fun hHeld => ?_)
    clear hK K
    refine norm_ (a' := ?_) ?_ ?_
    rotate_left
    · show Act.put _ (some 27) _ = _
      simp only [Act.put, List.setIfInBounds_toArray, List.set_cons_zero, List.set_cons_succ, i64_w, i32_w]
      rfl
    refine last_ (i := 7) (N := none) #[true, true, true, true, true, true, true, true] rfl rfl (by kernel_rfl) (by decide) (fun K hK => ?_)
    have hS3 := (hb11.block _ (blk_lt hO2)).trans hO2
    refine skip_storeBox (by rfl) rfl 56 (.tmp 4) (.tmp 27) rfl (.agg #[.slice A4 r4.1.length c4, .slice B4 r4.2.1.length d4, .int .i64 r4.2.2]) [.slice A4 r4.1.length c4, .slice B4 r4.2.1.length d4, .int .i64 r4.2.2] rfl rfl rfl (by kernel_rfl) (by simp [Value.oneCell']) hS3 rfl ?_
    intro w12 hT12 hg12 hs12
    refine hK.out _ _ ?_
    clear hK K
    refine done_ (by kernel_rfl) ?_
    clear hp1 hp2 hq4
    go_wp2
    obtain ⟨f1, f2, f3⟩ := inR3_kept k1 k2 k3 k4 k5 (by simp) (by decide) hS3 hg12
    refine bodyPost_ret (results_cell_row rfl _ _ o 56 _ (0, 0) _ rfl hT12 Try.underlying56 rfl (by kernel_rfl)) rfl ?_
    rw [hfin.out]
    have hBz := below_step hB2 hb11
    exact ⟨⟨_, rfl, A4, c4, B4, d4, rfl, k1, k2, f1, f2, f3⟩, hBz.grown hg12 hBz.size (fun k hk => by injection hk; omega)⟩
  · have f4 : (t.f0 == 4) = false := beq_eq_false_iff_ne.2 h4
    obtain ⟨r3, hr3⟩ : ∃ z, putW r2 (-1) = z := ⟨_, rfl⟩
    have hl3 := putW_len r2 (-1)
    rw [hr3] at hl3
    have hin3 : r3.1.length ≤ 90003 ∧ r3.2.1.length ≤ 90003 := by omega
    have hbd3 : r3.1.length ≤ 100000 ∧ 0 < r3.1.length ∧ r3.2.1.length ≤ 100000 := by omega
    clear hl3
    obtain ⟨r4, hr4⟩ : ∃ z, putW r3 (-1) = z := ⟨_, rfl⟩
    have hl4 := putW_len r3 (-1)
    rw [hr4] at hl4
    have hin4 : r4.1.length ≤ 90004 ∧ r4.2.1.length ≤ 90004 := by omega
    have hbd4 : r4.1.length ≤ 100000 ∧ 0 < r4.1.length ∧ r4.2.1.length ≤ 100000 := by omega
    clear hl4
    replace hr3 := Lib.hid hr3
    replace hr4 := Lib.hid hr4
    have hfin : Hid (oneV r x = r4) := Lib.hid (by rw [hans.out, if_neg h4, hr1.out, hr2.out, hr3.out, hr4.out])
    replace h4 := Lib.hid h4
    go_wp2_with ((with_reducible refine gate_store (t := 56) (p := 2) rfl ?_); go_loud (refine wpList_storeBox rfl rfl 56 (.tmp 2) (.tmp 17) rfl (.agg #[.slice A2 r2.1.length c2, .slice B2 r2.2.1.length d2, .int .i64 r2.2.2]) [.slice A2 r2.1.length c2, .slice B2 r2.2.1.length d2, .int .i64 r2.2.2] rfl rfl rfl (by kernel_rfl) (by simp [Value.oneCell']) hK2 rfl ?_; intro u2 hN2 hg2 hs2; obtain ⟨hC2, hP2, hR2⟩ := inR3_kept hc2 hd2 hC2 hP2 hR2 (by simp) (by decide) hK2 hg2; have hT2 := (hg2.block _ (blk_lt hT2) (by simp; omega)).trans hT2; have hO2 := (hg2.block _ (blk_lt hO2) (by simp; omega)).trans hO2; have hB2 := hB2.grown hg2 hB2.size (fun k hk => by injection hk; omega); clear hK2 hg2 hs2; have hK2 := hN2; clear hN2; obtain ⟨x0, x1, x2⟩ := box3 hK2; obtain ⟨y0, y1, y2, y3⟩ := box4 hT2; have hcall := putW_calls r2 A2 c2 B2 d2 (-1) u2 hc2 hd2 hC2 hP2 hbd2; rw [hr3.out] at hcall; replace hcall := Aside0.mk hcall))
    refine hcall.out.mono ?_; rintro e_ v3 ⟨⟨v_, rfl, A3, c3, B3, d3, rfl, hc3, hd3, hC3, hP3, hR3⟩, hb3⟩
    have hK3 := (hb3.block _ (blk_lt hK2)).trans hK2
    have hT3 := (hb3.block _ (blk_lt hT2)).trans hT2
    have hO3 := (hb3.block _ (blk_lt hO2)).trans hO2
    have hB3 := below_step hB2 hb3
    clear hcall x0 x1 x2 y0 y1 y2 y3 hb3 hK2 hT2 hO2 hB2
    have hcall := putW_calls r3 A3 c3 B3 d3 (-1) v3 hc3 hd3 hC3 hP3 hbd3; rw [hr4.out] at hcall; replace hcall := Aside0.mk hcall
    obtain ⟨x0, x1, x2⟩ := box3 hK3; obtain ⟨y0, y1, y2, y3⟩ := box4 hT3
    go_wp2_with fail
    refine hcall.out.mono ?_; rintro e_ v4 ⟨⟨v_, rfl, A4, c4, B4, d4, rfl, hc4, hd4, hC4, hP4, hR4⟩, hb4⟩
    have hK4 := (hb4.block _ (blk_lt hK3)).trans hK3
    have hT4 := (hb4.block _ (blk_lt hT3)).trans hT3
    have hO4 := (hb4.block _ (blk_lt hO3)).trans hO3
    have hB4 := below_step hB3 hb4
    clear hcall x0 x1 x2 y0 y1 y2 y3 hb4 hK3 hT3 hO3 hB3
    go_wp2_with ((with_reducible refine gate_store (t := 56) (p := 4) rfl ?_); go_loud (refine wpList_storeBox rfl rfl 56 (.tmp 4) (.tmp 30) rfl (.agg #[.slice A4 r4.1.length c4, .slice B4 r4.2.1.length d4, .int .i64 r4.2.2]) [.slice A4 r4.1.length c4, .slice B4 r4.2.1.length d4, .int .i64 r4.2.2] rfl rfl rfl (by kernel_rfl) (by simp [Value.oneCell']) hO4 rfl ?_; intro z1 hZ hgz hsz))
    obtain ⟨f1, f2, f3⟩ := inR3_kept hc4 hd4 hC4 hP4 hR4 (by simp) (by decide) hO4 hgz
    refine bodyPost_ret (results_cell_row rfl _ _ o 56 _ (0, 0) _ rfl hZ Try.underlying56 rfl (by kernel_rfl)) rfl ?_
    rw [hfin.out]
    exact ⟨⟨_, rfl, A4, c4, B4, d4, rfl, hc4, hd4, f1, f2, f3⟩, hB4.grown hgz hB4.size (fun k hk => by injection hk; omega)⟩
set_option maxHeartbeats 4000000 in
set_option maxRecDepth 100000 in
theorem twoV_calls (r : R3) (A : Option Addr) (c : Nat) (B : Option Addr) (d : Nat) (x y : Nat) (w : World) (hc : r.1.length ≤ c) (hd : r.2.1.length ≤ d) (hC : k28.C w A r.1.length r.1) (hP : (Kd.int .i64).C w B r.2.1.length r.2.1) (hl : r.1.length ≤ 90000 ∧ r.2.1.length ≤ 90000) (hx : x < r.1.length) (hy : y < r.1.length) :
    Calls Try.prog 58 #[.agg #[.slice A r.1.length c, .slice B r.2.1.length d, .int .i64 r.2.2], .int .i64 (x : Int), .int .i64 (y : Int)] w fun e w' => (∃ v, e = .returned v ∧ InR3 w' (twoV r x y) v) ∧ Below w.heap.size w w' := by
  obtain ⟨w1, hw1⟩ : ∃ w1, w.alloc (.cells #[.slice A r.1.length c, .slice B r.2.1.length d, .int .i64 r.2.2] 56 (0, 0)) = w1 := ⟨_, rfl⟩
  have hb1 : Below w.heap.size w w1 := by rw [← hw1]; exact below_alloc (Below.refl _ _) _
  have hK1 : w1.heap[w.heap.size]? = some (.cells #[.slice A r.1.length c, .slice B r.2.1.length d, .int .i64 r.2.2] 56 (0, 0)) := by rw [← hw1]; exact heap_alloc_new _ _
  obtain ⟨w2, hw2⟩ : ∃ w2, w1.alloc (.cells #[.slice none 0 0, .slice none 0 0, .int .i64 0] 56 (0, 0)) = w2 := ⟨_, rfl⟩
  have hb2 : Below w1.heap.size w1 w2 := by rw [← hw2]; exact below_alloc (Below.refl _ _) _
  have hO2 : w2.heap[w1.heap.size]? = some (.cells #[.slice none 0 0, .slice none 0 0, .int .i64 0] 56 (0, 0)) := by rw [← hw2]; exact heap_alloc_new _ _
  have hK2 := (hb2.block _ (blk_lt hK1)).trans hK1
  obtain ⟨w3, hw3⟩ : ∃ w3, w2.alloc (.cells #[.int .i64 0, .int .u64 0, .int .i64 0, .int .i64 0] 28 (0, 0)) = w3 := ⟨_, rfl⟩
  have hb3 : Below w2.heap.size w2 w3 := by rw [← hw3]; exact below_alloc (Below.refl _ _) _
  have hT3 : w3.heap[w2.heap.size]? = some (.cells #[.int .i64 0, .int .u64 0, .int .i64 0, .int .i64 0] 28 (0, 0)) := by rw [← hw3]; exact heap_alloc_new _ _
  have hK3 := (hb3.block _ (blk_lt hK2)).trans hK2
  have hO3 := (hb3.block _ (blk_lt hO2)).trans hO2
  have hB2 : Below w.heap.size w w2 := below_step hb1 hb2
  have hB3 : Below w.heap.size w w3 := below_step hB2 hb3
  have ho : w.heap.size < w1.heap.size ∧ w1.heap.size < w2.heap.size := ⟨blk_lt hK1, blk_lt hO2⟩
  obtain ⟨ad, rfl, e0, e1, e2, e3⟩ := at_T28 (Kd.C_below hC hB2) (y : Int) (by omega) (by omega)
  rw [Int.toNat_natCast] at e0 e1 e2 e3
  have hans : twoV r x y = twoT r (rd_T28 r.1 (y : Int)) x y := rfl
  generalize rd_T28 r.1 (y : Int) = t at hans e0 e1 e2 e3
  have x0 := (box3 hK2).1
  clear hK1 hK2 hb1 hb2 hb3 hO2
  replace hC := Aside0.mk hC
  replace hP := Aside0.mk hP
  unfold twoT at hans
  replace hans := Lib.hid hans
  obtain ⟨s, hs⟩ : ∃ s, w2.heap.size = s := ⟨_, rfl⟩
  obtain ⟨o, hoe⟩ : ∃ o, w1.heap.size = o := ⟨_, rfl⟩
  rw [hs, hoe] at ho
  rw [hs] at hT3
  rw [hoe] at hO3
  by_cases h1 : t.f0 = 1
  · have f1 : (t.f0 == 1) = true := beq_iff_eq.2 h1
    have h5 : ¬ t.f0 = 5 := by omega
    have f5 : (t.f0 == 5) = false := beq_eq_false_iff_ne.2 h5
    have hbd0 : r.1.length ≤ 100000 ∧ 0 < r.1.length ∧ r.2.1.length ≤ 100000 := ⟨by omega, by omega, by omega⟩
    have hin0 : r.1.length ≤ 90000 ∧ r.2.1.length ≤ 90000 := hl
    obtain ⟨r1, hr1⟩ : ∃ z, addW r ⟨2, 0, x, t.f2⟩ = z := ⟨_, rfl⟩
    have hl1 := addW_len r ⟨2, 0, x, t.f2⟩
    rw [hr1] at hl1
    have hin1 : r1.1.length ≤ 90001 ∧ r1.2.1.length ≤ 90001 := by omega
    have hbd1 : r1.1.length ≤ 100000 ∧ 0 < r1.1.length ∧ r1.2.1.length ≤ 100000 := by omega
    clear hl1
    obtain ⟨r2, hr2⟩ : ∃ z, addW r1 ⟨4, 0, x, y⟩ = z := ⟨_, rfl⟩
    have hl2 := addW_len r1 ⟨4, 0, x, y⟩
    rw [hr2] at hl2
    have hin2 : r2.1.length ≤ 90002 ∧ r2.2.1.length ≤ 90002 := by omega
    have hbd2 : r2.1.length ≤ 100000 ∧ 0 < r2.1.length ∧ r2.2.1.length ≤ 100000 := by omega
    clear hl2
    obtain ⟨r3, hr3⟩ : ∃ z, putW r2 (-1) = z := ⟨_, rfl⟩
    have hl3 := putW_len r2 (-1)
    rw [hr3] at hl3
    have hin3 : r3.1.length ≤ 90003 ∧ r3.2.1.length ≤ 90003 := by omega
    have hbd3 : r3.1.length ≤ 100000 ∧ 0 < r3.1.length ∧ r3.2.1.length ≤ 100000 := by omega
    clear hl3
    obtain ⟨r4, hr4⟩ : ∃ z, addW r3 ⟨6, 0, x, y⟩ = z := ⟨_, rfl⟩
    have hl4 := addW_len r3 ⟨6, 0, x, y⟩
    rw [hr4] at hl4
    have hin4 : r4.1.length ≤ 90004 ∧ r4.2.1.length ≤ 90004 := by omega
    have hbd4 : r4.1.length ≤ 100000 ∧ 0 < r4.1.length ∧ r4.2.1.length ≤ 100000 := by omega
    clear hl4
    replace hr1 := Lib.hid hr1
    replace hr2 := Lib.hid hr2
    replace hr3 := Lib.hid hr3
    replace hr4 := Lib.hid hr4
    have hfin : Hid (twoV r x y = r4) := Lib.hid (by rw [hans.out, if_neg (fun h => h5 h.1), if_pos h1, hr1.out, hr2.out, hr3.out, hr4.out])
    clear hans
    replace h1 := Lib.hid h1
    replace h5 := Lib.hid h5
    go_enter Try.func58, Try.ntmps58
    go_wp2_with ((with_reducible refine gate_store (t := 28) (p := 7) rfl ?_); go_loud (refine wpList_storeBox rfl rfl 28 (.tmp 7) (.tmp 12) rfl (tv t) [.int .i64 t.f0, .int .u64 t.f1, .int .i64 t.f2, .int .i64 t.f3] rfl rfl rfl (by kernel_rfl) (by simp [Value.oneCell']) hT3 rfl ?_; intro u0 hT0 hg0 hs0; have hK0 := (hg0.block _ (blk_lt hK3) (by simp; omega)).trans hK3; have hO0 := (hg0.block _ (blk_lt hO3) (by simp; omega)).trans hO3; have hB0 := hB3.grown hg0 hB3.size (fun k hk => by injection hk; omega); have hC0 := Kd.C_below hC.out hB0; have hP0 := Kd.C_below hP.out hB0; clear hT3 hK3 hO3 hg0 hs0; obtain ⟨x0, x1, x2⟩ := box3 hK0; obtain ⟨y0, y1, y2, y3⟩ := box4 hT0; have hcall := addW_calls r (some ad) c B d ⟨2, 0, x, t.f2⟩ u0 hc hd hC0 hP0 hbd0; rw [hr1.out] at hcall; replace hcall := Aside0.mk hcall))
    refine hcall.out.mono ?_; rintro e_ v1 ⟨⟨v_, rfl, A1, c1, B1, d1, rfl, hc1, hd1, hC1, hP1, hR1⟩, hb1⟩
    have hK1 := (hb1.block _ (blk_lt hK0)).trans hK0
    have hT1 := (hb1.block _ (blk_lt hT0)).trans hT0
    have hO1 := (hb1.block _ (blk_lt hO0)).trans hO0
    have hB1 := below_step hB0 hb1
    clear hcall x0 x1 x2 y0 y1 y2 y3 hb1 hK0 hT0 hO0 hB0
    go_wp2_with ((with_reducible refine gate_store (t := 56) (p := 3) rfl ?_); go_loud (refine wpList_storeBox rfl rfl 56 (.tmp 3) (.tmp 21) rfl (.agg #[.slice A1 r1.1.length c1, .slice B1 r1.2.1.length d1, .int .i64 r1.2.2]) [.slice A1 r1.1.length c1, .slice B1 r1.2.1.length d1, .int .i64 r1.2.2] rfl rfl rfl (by kernel_rfl) (by simp [Value.oneCell']) hK1 rfl ?_; intro u1 hN1 hg1 hs1; obtain ⟨hC1, hP1, hR1⟩ := inR3_kept hc1 hd1 hC1 hP1 hR1 (by simp) (by decide) hK1 hg1; have hT1 := (hg1.block _ (blk_lt hT1) (by simp; omega)).trans hT1; have hO1 := (hg1.block _ (blk_lt hO1) (by simp; omega)).trans hO1; have hB1 := hB1.grown hg1 hB1.size (fun k hk => by injection hk; omega); clear hK1 hg1 hs1; have hK1 := hN1; clear hN1; obtain ⟨x0, x1, x2⟩ := box3 hK1; obtain ⟨y0, y1, y2, y3⟩ := box4 hT1; have hcall := addW_calls r1 A1 c1 B1 d1 ⟨4, 0, x, y⟩ u1 hc1 hd1 hC1 hP1 hbd1; rw [hr2.out] at hcall; replace hcall := Aside0.mk hcall))
    refine hcall.out.mono ?_; rintro e_ v2 ⟨⟨v_, rfl, A2, c2, B2, d2, rfl, hc2, hd2, hC2, hP2, hR2⟩, hb2⟩
    have hK2 := (hb2.block _ (blk_lt hK1)).trans hK1
    have hT2 := (hb2.block _ (blk_lt hT1)).trans hT1
    have hO2 := (hb2.block _ (blk_lt hO1)).trans hO1
    have hB2 := below_step hB1 hb2
    clear hcall x0 x1 x2 y0 y1 y2 y3 hb2 hK1 hT1 hO1 hB1
    go_wp2_with ((with_reducible refine gate_store (t := 56) (p := 3) rfl ?_); go_loud (refine wpList_storeBox rfl rfl 56 (.tmp 3) (.tmp 28) rfl (.agg #[.slice A2 r2.1.length c2, .slice B2 r2.2.1.length d2, .int .i64 r2.2.2]) [.slice A2 r2.1.length c2, .slice B2 r2.2.1.length d2, .int .i64 r2.2.2] rfl rfl rfl (by kernel_rfl) (by simp [Value.oneCell']) hK2 rfl ?_; intro u2 hN2 hg2 hs2; obtain ⟨hC2, hP2, hR2⟩ := inR3_kept hc2 hd2 hC2 hP2 hR2 (by simp) (by decide) hK2 hg2; have hT2 := (hg2.block _ (blk_lt hT2) (by simp; omega)).trans hT2; have hO2 := (hg2.block _ (blk_lt hO2) (by simp; omega)).trans hO2; have hB2 := hB2.grown hg2 hB2.size (fun k hk => by injection hk; omega); clear hK2 hg2 hs2; have hK2 := hN2; clear hN2; obtain ⟨x0, x1, x2⟩ := box3 hK2; obtain ⟨y0, y1, y2, y3⟩ := box4 hT2; have hcall := putW_calls r2 A2 c2 B2 d2 (-1) u2 hc2 hd2 hC2 hP2 hbd2; rw [hr3.out] at hcall; replace hcall := Aside0.mk hcall))
    refine hcall.out.mono ?_; rintro e_ v3 ⟨⟨v_, rfl, A3, c3, B3, d3, rfl, hc3, hd3, hC3, hP3, hR3⟩, hb3⟩
    have hK3 := (hb3.block _ (blk_lt hK2)).trans hK2
    have hT3 := (hb3.block _ (blk_lt hT2)).trans hT2
    have hO3 := (hb3.block _ (blk_lt hO2)).trans hO2
    have hB3 := below_step hB2 hb3
    clear hcall x0 x1 x2 y0 y1 y2 y3 hb3 hK2 hT2 hO2 hB2
    go_wp2_with ((with_reducible refine gate_store (t := 56) (p := 3) rfl ?_); go_loud (refine wpList_storeBox rfl rfl 56 (.tmp 3) (.tmp 43) rfl (.agg #[.slice A3 r3.1.length c3, .slice B3 r3.2.1.length d3, .int .i64 r3.2.2]) [.slice A3 r3.1.length c3, .slice B3 r3.2.1.length d3, .int .i64 r3.2.2] rfl rfl rfl (by kernel_rfl) (by simp [Value.oneCell']) hK3 rfl ?_; intro u3 hN3 hg3 hs3; obtain ⟨hC3, hP3, hR3⟩ := inR3_kept hc3 hd3 hC3 hP3 hR3 (by simp) (by decide) hK3 hg3; have hT3 := (hg3.block _ (blk_lt hT3) (by simp; omega)).trans hT3; have hO3 := (hg3.block _ (blk_lt hO3) (by simp; omega)).trans hO3; have hB3 := hB3.grown hg3 hB3.size (fun k hk => by injection hk; omega); clear hK3 hg3 hs3; have hK3 := hN3; clear hN3; obtain ⟨x0, x1, x2⟩ := box3 hK3; obtain ⟨y0, y1, y2, y3⟩ := box4 hT3; have hcall := addW_calls r3 A3 c3 B3 d3 ⟨6, 0, x, y⟩ u3 hc3 hd3 hC3 hP3 hbd3; rw [hr4.out] at hcall; replace hcall := Aside0.mk hcall))
    refine hcall.out.mono ?_; rintro e_ v4 ⟨⟨v_, rfl, A4, c4, B4, d4, rfl, hc4, hd4, hC4, hP4, hR4⟩, hb4⟩
    have hK4 := (hb4.block _ (blk_lt hK3)).trans hK3
    have hT4 := (hb4.block _ (blk_lt hT3)).trans hT3
    have hO4 := (hb4.block _ (blk_lt hO3)).trans hO3
    have hB4 := below_step hB3 hb4
    clear hcall x0 x1 x2 y0 y1 y2 y3 hb4 hK3 hT3 hO3 hB3
    go_wp2_with ((with_reducible refine gate_store (t := 56) (p := 6) rfl ?_); go_loud (refine wpList_storeBox rfl rfl 56 (.tmp 6) (.tmp 48) rfl (.agg #[.slice A4 r4.1.length c4, .slice B4 r4.2.1.length d4, .int .i64 r4.2.2]) [.slice A4 r4.1.length c4, .slice B4 r4.2.1.length d4, .int .i64 r4.2.2] rfl rfl rfl (by kernel_rfl) (by simp [Value.oneCell']) hO4 rfl ?_; intro z1 hZ hgz hsz))
    obtain ⟨f1, f2, f3⟩ := inR3_kept hc4 hd4 hC4 hP4 hR4 (by simp) (by decide) hO4 hgz
    refine bodyPost_ret (results_cell_row rfl _ _ o 56 _ (0, 0) _ rfl hZ Try.underlying56 rfl (by kernel_rfl)) rfl ?_
    rw [hfin.out]
    exact ⟨⟨_, rfl, A4, c4, B4, d4, rfl, hc4, hd4, f1, f2, f3⟩, hB4.grown hgz hB4.size (fun k hk => by injection hk; omega)⟩
  · have f1 : (t.f0 == 1) = false := beq_eq_false_iff_ne.2 h1
    by_cases h5 : t.f0 = 5
    · have f5 : (t.f0 == 5) = true := beq_iff_eq.2 h5
      by_cases h6 : t.f2 = (x : Int)
      · have f6 : (t.f2 == (x : Int)) = true := beq_iff_eq.2 h6
        have hbd0 : r.1.length ≤ 100000 ∧ 0 < r.1.length ∧ r.2.1.length ≤ 100000 := ⟨by omega, by omega, by omega⟩
        have hin0 : r.1.length ≤ 90000 ∧ r.2.1.length ≤ 90000 := hl
        obtain ⟨r1, hr1⟩ : ∃ z, putW r (-1) = z := ⟨_, rfl⟩
        have hl1 := putW_len r (-1)
        rw [hr1] at hl1
        have hin1 : r1.1.length ≤ 90001 ∧ r1.2.1.length ≤ 90001 := by omega
        have hbd1 : r1.1.length ≤ 100000 ∧ 0 < r1.1.length ∧ r1.2.1.length ≤ 100000 := by omega
        clear hl1
        obtain ⟨r2, hr2⟩ : ∃ z, addW r1 ⟨4, 0, x, y⟩ = z := ⟨_, rfl⟩
        have hl2 := addW_len r1 ⟨4, 0, x, y⟩
        rw [hr2] at hl2
        have hin2 : r2.1.length ≤ 90002 ∧ r2.2.1.length ≤ 90002 := by omega
        have hbd2 : r2.1.length ≤ 100000 ∧ 0 < r2.1.length ∧ r2.2.1.length ≤ 100000 := by omega
        clear hl2
        obtain ⟨r3, hr3⟩ : ∃ z, putW r2 t.f3 = z := ⟨_, rfl⟩
        have hl3 := putW_len r2 t.f3
        rw [hr3] at hl3
        have hin3 : r3.1.length ≤ 90003 ∧ r3.2.1.length ≤ 90003 := by omega
        have hbd3 : r3.1.length ≤ 100000 ∧ 0 < r3.1.length ∧ r3.2.1.length ≤ 100000 := by omega
        clear hl3
        obtain ⟨r4, hr4⟩ : ∃ z, addW r3 ⟨6, 0, x, y⟩ = z := ⟨_, rfl⟩
        have hl4 := addW_len r3 ⟨6, 0, x, y⟩
        rw [hr4] at hl4
        have hin4 : r4.1.length ≤ 90004 ∧ r4.2.1.length ≤ 90004 := by omega
        have hbd4 : r4.1.length ≤ 100000 ∧ 0 < r4.1.length ∧ r4.2.1.length ≤ 100000 := by omega
        clear hl4
        replace hr1 := Lib.hid hr1
        replace hr2 := Lib.hid hr2
        replace hr3 := Lib.hid hr3
        replace hr4 := Lib.hid hr4
        have hfin : Hid (twoV r x y = r4) := Lib.hid (by rw [hans.out, if_pos ⟨h5, h6⟩, if_neg h1, hr1.out, hr2.out, hr3.out, hr4.out])
        clear hans
        replace h1 := Lib.hid h1
        replace h5 := Lib.hid h5
        replace h6 := Lib.hid h6
        go_enter Try.func58, Try.ntmps58
        go_wp2_with ((with_reducible refine gate_store (t := 28) (p := 7) rfl ?_); go_loud (refine wpList_storeBox rfl rfl 28 (.tmp 7) (.tmp 12) rfl (tv t) [.int .i64 t.f0, .int .u64 t.f1, .int .i64 t.f2, .int .i64 t.f3] rfl rfl rfl (by kernel_rfl) (by simp [Value.oneCell']) hT3 rfl ?_; intro u0 hT0 hg0 hs0; have hK0 := (hg0.block _ (blk_lt hK3) (by simp; omega)).trans hK3; have hO0 := (hg0.block _ (blk_lt hO3) (by simp; omega)).trans hO3; have hB0 := hB3.grown hg0 hB3.size (fun k hk => by injection hk; omega); have hC0 := Kd.C_below hC.out hB0; have hP0 := Kd.C_below hP.out hB0; clear hT3 hK3 hO3 hg0 hs0; obtain ⟨x0, x1, x2⟩ := box3 hK0; obtain ⟨y0, y1, y2, y3⟩ := box4 hT0; have hcall := putW_calls r (some ad) c B d (-1) u0 hc hd hC0 hP0 hbd0; rw [hr1.out] at hcall; replace hcall := Aside0.mk hcall))
        refine hcall.out.mono ?_; rintro e_ v1 ⟨⟨v_, rfl, A1, c1, B1, d1, rfl, hc1, hd1, hC1, hP1, hR1⟩, hb1⟩
        have hK1 := (hb1.block _ (blk_lt hK0)).trans hK0
        have hT1 := (hb1.block _ (blk_lt hT0)).trans hT0
        have hO1 := (hb1.block _ (blk_lt hO0)).trans hO0
        have hB1 := below_step hB0 hb1
        clear hcall x0 x1 x2 y0 y1 y2 y3 hb1 hK0 hT0 hO0 hB0
        go_wp2_with ((with_reducible refine gate_store (t := 56) (p := 3) rfl ?_); go_loud (refine wpList_storeBox rfl rfl 56 (.tmp 3) (.tmp 23) rfl (.agg #[.slice A1 r1.1.length c1, .slice B1 r1.2.1.length d1, .int .i64 r1.2.2]) [.slice A1 r1.1.length c1, .slice B1 r1.2.1.length d1, .int .i64 r1.2.2] rfl rfl rfl (by kernel_rfl) (by simp [Value.oneCell']) hK1 rfl ?_; intro u1 hN1 hg1 hs1; obtain ⟨hC1, hP1, hR1⟩ := inR3_kept hc1 hd1 hC1 hP1 hR1 (by simp) (by decide) hK1 hg1; have hT1 := (hg1.block _ (blk_lt hT1) (by simp; omega)).trans hT1; have hO1 := (hg1.block _ (blk_lt hO1) (by simp; omega)).trans hO1; have hB1 := hB1.grown hg1 hB1.size (fun k hk => by injection hk; omega); clear hK1 hg1 hs1; have hK1 := hN1; clear hN1; obtain ⟨x0, x1, x2⟩ := box3 hK1; obtain ⟨y0, y1, y2, y3⟩ := box4 hT1; have hcall := addW_calls r1 A1 c1 B1 d1 ⟨4, 0, x, y⟩ u1 hc1 hd1 hC1 hP1 hbd1; rw [hr2.out] at hcall; replace hcall := Aside0.mk hcall))
        refine hcall.out.mono ?_; rintro e_ v2 ⟨⟨v_, rfl, A2, c2, B2, d2, rfl, hc2, hd2, hC2, hP2, hR2⟩, hb2⟩
        have hK2 := (hb2.block _ (blk_lt hK1)).trans hK1
        have hT2 := (hb2.block _ (blk_lt hT1)).trans hT1
        have hO2 := (hb2.block _ (blk_lt hO1)).trans hO1
        have hB2 := below_step hB1 hb2
        clear hcall x0 x1 x2 y0 y1 y2 y3 hb2 hK1 hT1 hO1 hB1
        go_wp2_with ((with_reducible refine gate_store (t := 56) (p := 3) rfl ?_); go_loud (refine wpList_storeBox rfl rfl 56 (.tmp 3) (.tmp 28) rfl (.agg #[.slice A2 r2.1.length c2, .slice B2 r2.2.1.length d2, .int .i64 r2.2.2]) [.slice A2 r2.1.length c2, .slice B2 r2.2.1.length d2, .int .i64 r2.2.2] rfl rfl rfl (by kernel_rfl) (by simp [Value.oneCell']) hK2 rfl ?_; intro u2 hN2 hg2 hs2; obtain ⟨hC2, hP2, hR2⟩ := inR3_kept hc2 hd2 hC2 hP2 hR2 (by simp) (by decide) hK2 hg2; have hT2 := (hg2.block _ (blk_lt hT2) (by simp; omega)).trans hT2; have hO2 := (hg2.block _ (blk_lt hO2) (by simp; omega)).trans hO2; have hB2 := hB2.grown hg2 hB2.size (fun k hk => by injection hk; omega); clear hK2 hg2 hs2; have hK2 := hN2; clear hN2; obtain ⟨x0, x1, x2⟩ := box3 hK2; obtain ⟨y0, y1, y2, y3⟩ := box4 hT2; have hcall := putW_calls r2 A2 c2 B2 d2 t.f3 u2 hc2 hd2 hC2 hP2 hbd2; rw [hr3.out] at hcall; replace hcall := Aside0.mk hcall))
        refine hcall.out.mono ?_; rintro e_ v3 ⟨⟨v_, rfl, A3, c3, B3, d3, rfl, hc3, hd3, hC3, hP3, hR3⟩, hb3⟩
        have hK3 := (hb3.block _ (blk_lt hK2)).trans hK2
        have hT3 := (hb3.block _ (blk_lt hT2)).trans hT2
        have hO3 := (hb3.block _ (blk_lt hO2)).trans hO2
        have hB3 := below_step hB2 hb3
        clear hcall x0 x1 x2 y0 y1 y2 y3 hb3 hK2 hT2 hO2 hB2
        go_wp2_with ((with_reducible refine gate_store (t := 56) (p := 3) rfl ?_); go_loud (refine wpList_storeBox rfl rfl 56 (.tmp 3) (.tmp 41) rfl (.agg #[.slice A3 r3.1.length c3, .slice B3 r3.2.1.length d3, .int .i64 r3.2.2]) [.slice A3 r3.1.length c3, .slice B3 r3.2.1.length d3, .int .i64 r3.2.2] rfl rfl rfl (by kernel_rfl) (by simp [Value.oneCell']) hK3 rfl ?_; intro u3 hN3 hg3 hs3; obtain ⟨hC3, hP3, hR3⟩ := inR3_kept hc3 hd3 hC3 hP3 hR3 (by simp) (by decide) hK3 hg3; have hT3 := (hg3.block _ (blk_lt hT3) (by simp; omega)).trans hT3; have hO3 := (hg3.block _ (blk_lt hO3) (by simp; omega)).trans hO3; have hB3 := hB3.grown hg3 hB3.size (fun k hk => by injection hk; omega); clear hK3 hg3 hs3; have hK3 := hN3; clear hN3; obtain ⟨x0, x1, x2⟩ := box3 hK3; obtain ⟨y0, y1, y2, y3⟩ := box4 hT3; have hcall := addW_calls r3 A3 c3 B3 d3 ⟨6, 0, x, y⟩ u3 hc3 hd3 hC3 hP3 hbd3; rw [hr4.out] at hcall; replace hcall := Aside0.mk hcall))
        refine hcall.out.mono ?_; rintro e_ v4 ⟨⟨v_, rfl, A4, c4, B4, d4, rfl, hc4, hd4, hC4, hP4, hR4⟩, hb4⟩
        have hK4 := (hb4.block _ (blk_lt hK3)).trans hK3
        have hT4 := (hb4.block _ (blk_lt hT3)).trans hT3
        have hO4 := (hb4.block _ (blk_lt hO3)).trans hO3
        have hB4 := below_step hB3 hb4
        clear hcall x0 x1 x2 y0 y1 y2 y3 hb4 hK3 hT3 hO3 hB3
        go_wp2_with ((with_reducible refine gate_store (t := 56) (p := 6) rfl ?_); go_loud (refine wpList_storeBox rfl rfl 56 (.tmp 6) (.tmp 48) rfl (.agg #[.slice A4 r4.1.length c4, .slice B4 r4.2.1.length d4, .int .i64 r4.2.2]) [.slice A4 r4.1.length c4, .slice B4 r4.2.1.length d4, .int .i64 r4.2.2] rfl rfl rfl (by kernel_rfl) (by simp [Value.oneCell']) hO4 rfl ?_; intro z1 hZ hgz hsz))
        obtain ⟨f1, f2, f3⟩ := inR3_kept hc4 hd4 hC4 hP4 hR4 (by simp) (by decide) hO4 hgz
        refine bodyPost_ret (results_cell_row rfl _ _ o 56 _ (0, 0) _ rfl hZ Try.underlying56 rfl (by kernel_rfl)) rfl ?_
        rw [hfin.out]
        exact ⟨⟨_, rfl, A4, c4, B4, d4, rfl, hc4, hd4, f1, f2, f3⟩, hB4.grown hgz hB4.size (fun k hk => by injection hk; omega)⟩
      · have f6 : (t.f2 == (x : Int)) = false := beq_eq_false_iff_ne.2 h6
        have hbd0 : r.1.length ≤ 100000 ∧ 0 < r.1.length ∧ r.2.1.length ≤ 100000 := ⟨by omega, by omega, by omega⟩
        have hin0 : r.1.length ≤ 90000 ∧ r.2.1.length ≤ 90000 := hl
        obtain ⟨r1, hr1⟩ : ∃ z, putW r (-1) = z := ⟨_, rfl⟩
        have hl1 := putW_len r (-1)
        rw [hr1] at hl1
        have hin1 : r1.1.length ≤ 90001 ∧ r1.2.1.length ≤ 90001 := by omega
        have hbd1 : r1.1.length ≤ 100000 ∧ 0 < r1.1.length ∧ r1.2.1.length ≤ 100000 := by omega
        clear hl1
        obtain ⟨r2, hr2⟩ : ∃ z, addW r1 ⟨4, 0, x, y⟩ = z := ⟨_, rfl⟩
        have hl2 := addW_len r1 ⟨4, 0, x, y⟩
        rw [hr2] at hl2
        have hin2 : r2.1.length ≤ 90002 ∧ r2.2.1.length ≤ 90002 := by omega
        have hbd2 : r2.1.length ≤ 100000 ∧ 0 < r2.1.length ∧ r2.2.1.length ≤ 100000 := by omega
        clear hl2
        obtain ⟨r3, hr3⟩ : ∃ z, putW r2 (-1) = z := ⟨_, rfl⟩
        have hl3 := putW_len r2 (-1)
        rw [hr3] at hl3
        have hin3 : r3.1.length ≤ 90003 ∧ r3.2.1.length ≤ 90003 := by omega
        have hbd3 : r3.1.length ≤ 100000 ∧ 0 < r3.1.length ∧ r3.2.1.length ≤ 100000 := by omega
        clear hl3
        obtain ⟨r4, hr4⟩ : ∃ z, addW r3 ⟨6, 0, x, y⟩ = z := ⟨_, rfl⟩
        have hl4 := addW_len r3 ⟨6, 0, x, y⟩
        rw [hr4] at hl4
        have hin4 : r4.1.length ≤ 90004 ∧ r4.2.1.length ≤ 90004 := by omega
        have hbd4 : r4.1.length ≤ 100000 ∧ 0 < r4.1.length ∧ r4.2.1.length ≤ 100000 := by omega
        clear hl4
        replace hr1 := Lib.hid hr1
        replace hr2 := Lib.hid hr2
        replace hr3 := Lib.hid hr3
        replace hr4 := Lib.hid hr4
        have hfin : Hid (twoV r x y = r4) := Lib.hid (by rw [hans.out, if_neg (fun h => h6 h.2), if_neg h1, hr1.out, hr2.out, hr3.out, hr4.out])
        clear hans
        replace h1 := Lib.hid h1
        replace h5 := Lib.hid h5
        replace h6 := Lib.hid h6
        go_enter Try.func58, Try.ntmps58
        go_wp2_with ((with_reducible refine gate_store (t := 28) (p := 7) rfl ?_); go_loud (refine wpList_storeBox rfl rfl 28 (.tmp 7) (.tmp 12) rfl (tv t) [.int .i64 t.f0, .int .u64 t.f1, .int .i64 t.f2, .int .i64 t.f3] rfl rfl rfl (by kernel_rfl) (by simp [Value.oneCell']) hT3 rfl ?_; intro u0 hT0 hg0 hs0; have hK0 := (hg0.block _ (blk_lt hK3) (by simp; omega)).trans hK3; have hO0 := (hg0.block _ (blk_lt hO3) (by simp; omega)).trans hO3; have hB0 := hB3.grown hg0 hB3.size (fun k hk => by injection hk; omega); have hC0 := Kd.C_below hC.out hB0; have hP0 := Kd.C_below hP.out hB0; clear hT3 hK3 hO3 hg0 hs0; obtain ⟨x0, x1, x2⟩ := box3 hK0; obtain ⟨y0, y1, y2, y3⟩ := box4 hT0; have hcall := putW_calls r (some ad) c B d (-1) u0 hc hd hC0 hP0 hbd0; rw [hr1.out] at hcall; replace hcall := Aside0.mk hcall))
        refine hcall.out.mono ?_; rintro e_ v1 ⟨⟨v_, rfl, A1, c1, B1, d1, rfl, hc1, hd1, hC1, hP1, hR1⟩, hb1⟩
        have hK1 := (hb1.block _ (blk_lt hK0)).trans hK0
        have hT1 := (hb1.block _ (blk_lt hT0)).trans hT0
        have hO1 := (hb1.block _ (blk_lt hO0)).trans hO0
        have hB1 := below_step hB0 hb1
        clear hcall x0 x1 x2 y0 y1 y2 y3 hb1 hK0 hT0 hO0 hB0
        go_wp2_with ((with_reducible refine gate_store (t := 56) (p := 3) rfl ?_); go_loud (refine wpList_storeBox rfl rfl 56 (.tmp 3) (.tmp 23) rfl (.agg #[.slice A1 r1.1.length c1, .slice B1 r1.2.1.length d1, .int .i64 r1.2.2]) [.slice A1 r1.1.length c1, .slice B1 r1.2.1.length d1, .int .i64 r1.2.2] rfl rfl rfl (by kernel_rfl) (by simp [Value.oneCell']) hK1 rfl ?_; intro u1 hN1 hg1 hs1; obtain ⟨hC1, hP1, hR1⟩ := inR3_kept hc1 hd1 hC1 hP1 hR1 (by simp) (by decide) hK1 hg1; have hT1 := (hg1.block _ (blk_lt hT1) (by simp; omega)).trans hT1; have hO1 := (hg1.block _ (blk_lt hO1) (by simp; omega)).trans hO1; have hB1 := hB1.grown hg1 hB1.size (fun k hk => by injection hk; omega); clear hK1 hg1 hs1; have hK1 := hN1; clear hN1; obtain ⟨x0, x1, x2⟩ := box3 hK1; obtain ⟨y0, y1, y2, y3⟩ := box4 hT1; have hcall := addW_calls r1 A1 c1 B1 d1 ⟨4, 0, x, y⟩ u1 hc1 hd1 hC1 hP1 hbd1; rw [hr2.out] at hcall; replace hcall := Aside0.mk hcall))
        refine hcall.out.mono ?_; rintro e_ v2 ⟨⟨v_, rfl, A2, c2, B2, d2, rfl, hc2, hd2, hC2, hP2, hR2⟩, hb2⟩
        have hK2 := (hb2.block _ (blk_lt hK1)).trans hK1
        have hT2 := (hb2.block _ (blk_lt hT1)).trans hT1
        have hO2 := (hb2.block _ (blk_lt hO1)).trans hO1
        have hB2 := below_step hB1 hb2
        clear hcall x0 x1 x2 y0 y1 y2 y3 hb2 hK1 hT1 hO1 hB1
        go_wp2_with ((with_reducible refine gate_store (t := 56) (p := 3) rfl ?_); go_loud (refine wpList_storeBox rfl rfl 56 (.tmp 3) (.tmp 28) rfl (.agg #[.slice A2 r2.1.length c2, .slice B2 r2.2.1.length d2, .int .i64 r2.2.2]) [.slice A2 r2.1.length c2, .slice B2 r2.2.1.length d2, .int .i64 r2.2.2] rfl rfl rfl (by kernel_rfl) (by simp [Value.oneCell']) hK2 rfl ?_; intro u2 hN2 hg2 hs2; obtain ⟨hC2, hP2, hR2⟩ := inR3_kept hc2 hd2 hC2 hP2 hR2 (by simp) (by decide) hK2 hg2; have hT2 := (hg2.block _ (blk_lt hT2) (by simp; omega)).trans hT2; have hO2 := (hg2.block _ (blk_lt hO2) (by simp; omega)).trans hO2; have hB2 := hB2.grown hg2 hB2.size (fun k hk => by injection hk; omega); clear hK2 hg2 hs2; have hK2 := hN2; clear hN2; obtain ⟨x0, x1, x2⟩ := box3 hK2; obtain ⟨y0, y1, y2, y3⟩ := box4 hT2; have hcall := putW_calls r2 A2 c2 B2 d2 (-1) u2 hc2 hd2 hC2 hP2 hbd2; rw [hr3.out] at hcall; replace hcall := Aside0.mk hcall))
        refine hcall.out.mono ?_; rintro e_ v3 ⟨⟨v_, rfl, A3, c3, B3, d3, rfl, hc3, hd3, hC3, hP3, hR3⟩, hb3⟩
        have hK3 := (hb3.block _ (blk_lt hK2)).trans hK2
        have hT3 := (hb3.block _ (blk_lt hT2)).trans hT2
        have hO3 := (hb3.block _ (blk_lt hO2)).trans hO2
        have hB3 := below_step hB2 hb3
        clear hcall x0 x1 x2 y0 y1 y2 y3 hb3 hK2 hT2 hO2 hB2
        go_wp2_with ((with_reducible refine gate_store (t := 56) (p := 3) rfl ?_); go_loud (refine wpList_storeBox rfl rfl 56 (.tmp 3) (.tmp 43) rfl (.agg #[.slice A3 r3.1.length c3, .slice B3 r3.2.1.length d3, .int .i64 r3.2.2]) [.slice A3 r3.1.length c3, .slice B3 r3.2.1.length d3, .int .i64 r3.2.2] rfl rfl rfl (by kernel_rfl) (by simp [Value.oneCell']) hK3 rfl ?_; intro u3 hN3 hg3 hs3; obtain ⟨hC3, hP3, hR3⟩ := inR3_kept hc3 hd3 hC3 hP3 hR3 (by simp) (by decide) hK3 hg3; have hT3 := (hg3.block _ (blk_lt hT3) (by simp; omega)).trans hT3; have hO3 := (hg3.block _ (blk_lt hO3) (by simp; omega)).trans hO3; have hB3 := hB3.grown hg3 hB3.size (fun k hk => by injection hk; omega); clear hK3 hg3 hs3; have hK3 := hN3; clear hN3; obtain ⟨x0, x1, x2⟩ := box3 hK3; obtain ⟨y0, y1, y2, y3⟩ := box4 hT3; have hcall := addW_calls r3 A3 c3 B3 d3 ⟨6, 0, x, y⟩ u3 hc3 hd3 hC3 hP3 hbd3; rw [hr4.out] at hcall; replace hcall := Aside0.mk hcall))
        refine hcall.out.mono ?_; rintro e_ v4 ⟨⟨v_, rfl, A4, c4, B4, d4, rfl, hc4, hd4, hC4, hP4, hR4⟩, hb4⟩
        have hK4 := (hb4.block _ (blk_lt hK3)).trans hK3
        have hT4 := (hb4.block _ (blk_lt hT3)).trans hT3
        have hO4 := (hb4.block _ (blk_lt hO3)).trans hO3
        have hB4 := below_step hB3 hb4
        clear hcall x0 x1 x2 y0 y1 y2 y3 hb4 hK3 hT3 hO3 hB3
        go_wp2_with ((with_reducible refine gate_store (t := 56) (p := 6) rfl ?_); go_loud (refine wpList_storeBox rfl rfl 56 (.tmp 6) (.tmp 48) rfl (.agg #[.slice A4 r4.1.length c4, .slice B4 r4.2.1.length d4, .int .i64 r4.2.2]) [.slice A4 r4.1.length c4, .slice B4 r4.2.1.length d4, .int .i64 r4.2.2] rfl rfl rfl (by kernel_rfl) (by simp [Value.oneCell']) hO4 rfl ?_; intro z1 hZ hgz hsz))
        obtain ⟨f1, f2, f3⟩ := inR3_kept hc4 hd4 hC4 hP4 hR4 (by simp) (by decide) hO4 hgz
        refine bodyPost_ret (results_cell_row rfl _ _ o 56 _ (0, 0) _ rfl hZ Try.underlying56 rfl (by kernel_rfl)) rfl ?_
        rw [hfin.out]
        exact ⟨⟨_, rfl, A4, c4, B4, d4, rfl, hc4, hd4, f1, f2, f3⟩, hB4.grown hgz hB4.size (fun k hk => by injection hk; omega)⟩
    · have f5 : (t.f0 == 5) = false := beq_eq_false_iff_ne.2 h5
      have hbd0 : r.1.length ≤ 100000 ∧ 0 < r.1.length ∧ r.2.1.length ≤ 100000 := ⟨by omega, by omega, by omega⟩
      have hin0 : r.1.length ≤ 90000 ∧ r.2.1.length ≤ 90000 := hl
      obtain ⟨r1, hr1⟩ : ∃ z, putW r (-1) = z := ⟨_, rfl⟩
      have hl1 := putW_len r (-1)
      rw [hr1] at hl1
      have hin1 : r1.1.length ≤ 90001 ∧ r1.2.1.length ≤ 90001 := by omega
      have hbd1 : r1.1.length ≤ 100000 ∧ 0 < r1.1.length ∧ r1.2.1.length ≤ 100000 := by omega
      clear hl1
      obtain ⟨r2, hr2⟩ : ∃ z, addW r1 ⟨4, 0, x, y⟩ = z := ⟨_, rfl⟩
      have hl2 := addW_len r1 ⟨4, 0, x, y⟩
      rw [hr2] at hl2
      have hin2 : r2.1.length ≤ 90002 ∧ r2.2.1.length ≤ 90002 := by omega
      have hbd2 : r2.1.length ≤ 100000 ∧ 0 < r2.1.length ∧ r2.2.1.length ≤ 100000 := by omega
      clear hl2
      obtain ⟨r3, hr3⟩ : ∃ z, putW r2 (-1) = z := ⟨_, rfl⟩
      have hl3 := putW_len r2 (-1)
      rw [hr3] at hl3
      have hin3 : r3.1.length ≤ 90003 ∧ r3.2.1.length ≤ 90003 := by omega
      have hbd3 : r3.1.length ≤ 100000 ∧ 0 < r3.1.length ∧ r3.2.1.length ≤ 100000 := by omega
      clear hl3
      obtain ⟨r4, hr4⟩ : ∃ z, addW r3 ⟨6, 0, x, y⟩ = z := ⟨_, rfl⟩
      have hl4 := addW_len r3 ⟨6, 0, x, y⟩
      rw [hr4] at hl4
      have hin4 : r4.1.length ≤ 90004 ∧ r4.2.1.length ≤ 90004 := by omega
      have hbd4 : r4.1.length ≤ 100000 ∧ 0 < r4.1.length ∧ r4.2.1.length ≤ 100000 := by omega
      clear hl4
      replace hr1 := Lib.hid hr1
      replace hr2 := Lib.hid hr2
      replace hr3 := Lib.hid hr3
      replace hr4 := Lib.hid hr4
      have hfin : Hid (twoV r x y = r4) := Lib.hid (by rw [hans.out, if_neg (fun h => h5 h.1), if_neg h1, hr1.out, hr2.out, hr3.out, hr4.out])
      clear hans
      replace h1 := Lib.hid h1
      replace h5 := Lib.hid h5
      go_enter Try.func58, Try.ntmps58
      go_wp2_with ((with_reducible refine gate_store (t := 28) (p := 7) rfl ?_); go_loud (refine wpList_storeBox rfl rfl 28 (.tmp 7) (.tmp 12) rfl (tv t) [.int .i64 t.f0, .int .u64 t.f1, .int .i64 t.f2, .int .i64 t.f3] rfl rfl rfl (by kernel_rfl) (by simp [Value.oneCell']) hT3 rfl ?_; intro u0 hT0 hg0 hs0; have hK0 := (hg0.block _ (blk_lt hK3) (by simp; omega)).trans hK3; have hO0 := (hg0.block _ (blk_lt hO3) (by simp; omega)).trans hO3; have hB0 := hB3.grown hg0 hB3.size (fun k hk => by injection hk; omega); have hC0 := Kd.C_below hC.out hB0; have hP0 := Kd.C_below hP.out hB0; clear hT3 hK3 hO3 hg0 hs0; obtain ⟨x0, x1, x2⟩ := box3 hK0; obtain ⟨y0, y1, y2, y3⟩ := box4 hT0; have hcall := putW_calls r (some ad) c B d (-1) u0 hc hd hC0 hP0 hbd0; rw [hr1.out] at hcall; replace hcall := Aside0.mk hcall))
      refine hcall.out.mono ?_; rintro e_ v1 ⟨⟨v_, rfl, A1, c1, B1, d1, rfl, hc1, hd1, hC1, hP1, hR1⟩, hb1⟩
      have hK1 := (hb1.block _ (blk_lt hK0)).trans hK0
      have hT1 := (hb1.block _ (blk_lt hT0)).trans hT0
      have hO1 := (hb1.block _ (blk_lt hO0)).trans hO0
      have hB1 := below_step hB0 hb1
      clear hcall x0 x1 x2 y0 y1 y2 y3 hb1 hK0 hT0 hO0 hB0
      go_wp2_with ((with_reducible refine gate_store (t := 56) (p := 3) rfl ?_); go_loud (refine wpList_storeBox rfl rfl 56 (.tmp 3) (.tmp 23) rfl (.agg #[.slice A1 r1.1.length c1, .slice B1 r1.2.1.length d1, .int .i64 r1.2.2]) [.slice A1 r1.1.length c1, .slice B1 r1.2.1.length d1, .int .i64 r1.2.2] rfl rfl rfl (by kernel_rfl) (by simp [Value.oneCell']) hK1 rfl ?_; intro u1 hN1 hg1 hs1; obtain ⟨hC1, hP1, hR1⟩ := inR3_kept hc1 hd1 hC1 hP1 hR1 (by simp) (by decide) hK1 hg1; have hT1 := (hg1.block _ (blk_lt hT1) (by simp; omega)).trans hT1; have hO1 := (hg1.block _ (blk_lt hO1) (by simp; omega)).trans hO1; have hB1 := hB1.grown hg1 hB1.size (fun k hk => by injection hk; omega); clear hK1 hg1 hs1; have hK1 := hN1; clear hN1; obtain ⟨x0, x1, x2⟩ := box3 hK1; obtain ⟨y0, y1, y2, y3⟩ := box4 hT1; have hcall := addW_calls r1 A1 c1 B1 d1 ⟨4, 0, x, y⟩ u1 hc1 hd1 hC1 hP1 hbd1; rw [hr2.out] at hcall; replace hcall := Aside0.mk hcall))
      refine hcall.out.mono ?_; rintro e_ v2 ⟨⟨v_, rfl, A2, c2, B2, d2, rfl, hc2, hd2, hC2, hP2, hR2⟩, hb2⟩
      have hK2 := (hb2.block _ (blk_lt hK1)).trans hK1
      have hT2 := (hb2.block _ (blk_lt hT1)).trans hT1
      have hO2 := (hb2.block _ (blk_lt hO1)).trans hO1
      have hB2 := below_step hB1 hb2
      clear hcall x0 x1 x2 y0 y1 y2 y3 hb2 hK1 hT1 hO1 hB1
      go_wp2_with ((with_reducible refine gate_store (t := 56) (p := 3) rfl ?_); go_loud (refine wpList_storeBox rfl rfl 56 (.tmp 3) (.tmp 28) rfl (.agg #[.slice A2 r2.1.length c2, .slice B2 r2.2.1.length d2, .int .i64 r2.2.2]) [.slice A2 r2.1.length c2, .slice B2 r2.2.1.length d2, .int .i64 r2.2.2] rfl rfl rfl (by kernel_rfl) (by simp [Value.oneCell']) hK2 rfl ?_; intro u2 hN2 hg2 hs2; obtain ⟨hC2, hP2, hR2⟩ := inR3_kept hc2 hd2 hC2 hP2 hR2 (by simp) (by decide) hK2 hg2; have hT2 := (hg2.block _ (blk_lt hT2) (by simp; omega)).trans hT2; have hO2 := (hg2.block _ (blk_lt hO2) (by simp; omega)).trans hO2; have hB2 := hB2.grown hg2 hB2.size (fun k hk => by injection hk; omega); clear hK2 hg2 hs2; have hK2 := hN2; clear hN2; obtain ⟨x0, x1, x2⟩ := box3 hK2; obtain ⟨y0, y1, y2, y3⟩ := box4 hT2; have hcall := putW_calls r2 A2 c2 B2 d2 (-1) u2 hc2 hd2 hC2 hP2 hbd2; rw [hr3.out] at hcall; replace hcall := Aside0.mk hcall))
      refine hcall.out.mono ?_; rintro e_ v3 ⟨⟨v_, rfl, A3, c3, B3, d3, rfl, hc3, hd3, hC3, hP3, hR3⟩, hb3⟩
      have hK3 := (hb3.block _ (blk_lt hK2)).trans hK2
      have hT3 := (hb3.block _ (blk_lt hT2)).trans hT2
      have hO3 := (hb3.block _ (blk_lt hO2)).trans hO2
      have hB3 := below_step hB2 hb3
      clear hcall x0 x1 x2 y0 y1 y2 y3 hb3 hK2 hT2 hO2 hB2
      go_wp2_with ((with_reducible refine gate_store (t := 56) (p := 3) rfl ?_); go_loud (refine wpList_storeBox rfl rfl 56 (.tmp 3) (.tmp 43) rfl (.agg #[.slice A3 r3.1.length c3, .slice B3 r3.2.1.length d3, .int .i64 r3.2.2]) [.slice A3 r3.1.length c3, .slice B3 r3.2.1.length d3, .int .i64 r3.2.2] rfl rfl rfl (by kernel_rfl) (by simp [Value.oneCell']) hK3 rfl ?_; intro u3 hN3 hg3 hs3; obtain ⟨hC3, hP3, hR3⟩ := inR3_kept hc3 hd3 hC3 hP3 hR3 (by simp) (by decide) hK3 hg3; have hT3 := (hg3.block _ (blk_lt hT3) (by simp; omega)).trans hT3; have hO3 := (hg3.block _ (blk_lt hO3) (by simp; omega)).trans hO3; have hB3 := hB3.grown hg3 hB3.size (fun k hk => by injection hk; omega); clear hK3 hg3 hs3; have hK3 := hN3; clear hN3; obtain ⟨x0, x1, x2⟩ := box3 hK3; obtain ⟨y0, y1, y2, y3⟩ := box4 hT3; have hcall := addW_calls r3 A3 c3 B3 d3 ⟨6, 0, x, y⟩ u3 hc3 hd3 hC3 hP3 hbd3; rw [hr4.out] at hcall; replace hcall := Aside0.mk hcall))
      refine hcall.out.mono ?_; rintro e_ v4 ⟨⟨v_, rfl, A4, c4, B4, d4, rfl, hc4, hd4, hC4, hP4, hR4⟩, hb4⟩
      have hK4 := (hb4.block _ (blk_lt hK3)).trans hK3
      have hT4 := (hb4.block _ (blk_lt hT3)).trans hT3
      have hO4 := (hb4.block _ (blk_lt hO3)).trans hO3
      have hB4 := below_step hB3 hb4
      clear hcall x0 x1 x2 y0 y1 y2 y3 hb4 hK3 hT3 hO3 hB3
      go_wp2_with ((with_reducible refine gate_store (t := 56) (p := 6) rfl ?_); go_loud (refine wpList_storeBox rfl rfl 56 (.tmp 6) (.tmp 48) rfl (.agg #[.slice A4 r4.1.length c4, .slice B4 r4.2.1.length d4, .int .i64 r4.2.2]) [.slice A4 r4.1.length c4, .slice B4 r4.2.1.length d4, .int .i64 r4.2.2] rfl rfl rfl (by kernel_rfl) (by simp [Value.oneCell']) hO4 rfl ?_; intro z1 hZ hgz hsz))
      obtain ⟨f1, f2, f3⟩ := inR3_kept hc4 hd4 hC4 hP4 hR4 (by simp) (by decide) hO4 hgz
      refine bodyPost_ret (results_cell_row rfl _ _ o 56 _ (0, 0) _ rfl hZ Try.underlying56 rfl (by kernel_rfl)) rfl ?_
      rw [hfin.out]
      exact ⟨⟨_, rfl, A4, c4, B4, d4, rfl, hc4, hd4, f1, f2, f3⟩, hB4.grown hgz hB4.size (fun k hk => by injection hk; omega)⟩
end Go.Proofs.Ytenmmeehgnkcpaa.Q
