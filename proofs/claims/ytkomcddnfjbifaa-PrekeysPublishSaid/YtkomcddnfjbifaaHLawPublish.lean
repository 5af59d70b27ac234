/- PrekeysPublish: any shelves with any one, which may be, and which two are the same, is as the document says, or refused.
   Conditions: the lists are read as shelves, and the shelf as one. -/
import Derived.Test.YtkomcddnfjbifaaHSmall
import Derived.Test.YtkomcddnfjbifaaHPure5
import Derived.Test.YtkomcddnfjbifaaHLikeAll
namespace Go.Proofs.Ytkomcddnfjbifaa.Q
open Go.RowKit Go.Proofs.YtkomcddnfjbifaaW.PrintWords Go.Proofs.YtkomcddnfjbifaaW.PrintLast Go.Proofs.YtkomcddnfjbifaaW.PrintMore
set_option linter.unusedVariables false
set_option linter.unusedSimpArgs false

set_option maxHeartbeats 4000000 in
set_option maxRecDepth 100000 in
theorem publish_walk (A0 : Option Addr) (c0 : Nat) (l0 : List S29) (A1 : Option Addr) (c1 : Nat) (l1 : List S29) (x : S29) (A4 : Option Addr) (c4 : Nat) (w : World) (hr0 : Kd.C k29 w A0 l0.length l0) (hc0 : l0.length ≤ c0) (hr1 : Kd.C k29 w A1 l1.length l1) (hc1 : l1.length ≤ c1) (hC4 : Kd.C k26 w A4 x.f3.length x.f3) (hc4 : x.f3.length ≤ c4) (g0 : good22 l0) (g1 : good22 l1) (g2 : good29 x) :
    Calls Try.prog 6 #[.slice A0 l0.length c0, .slice A1 l1.length c1, sv x A4 c4] w fun e w' => e = .returned (.bool true) ∧ Below w.heap.size w w' := by
  have hsm := small_few l0 g0
  have hsm1 := small_few l1 g1
  have hsc := small_cut g2
  obtain ⟨l, hl⟩ : ∃ l, fewP l0 = l := ⟨_, rfl⟩
  obtain ⟨mm, hl1⟩ : ∃ l, fewP l1 = l := ⟨_, rfl⟩
  rw [hl] at hsm
  rw [hl1] at hsm1
  obtain ⟨hl10, hl22, hwf, hpos⟩ := hsm
  obtain ⟨hm10, hm22', _, _⟩ := hsm1
  obtain ⟨m, hm⟩ : ∃ m, min x.f3.length 22 = m := ⟨_, rfl⟩
  have hm1 : m ≤ x.f3.length := by omega
  have hm22 : m ≤ 22 := by omega
  obtain ⟨s, hs⟩ : ∃ s, cutS x = s := ⟨_, rfl⟩
  rw [hs] at hsc
  have hs0 : x.f0 = s.f0 ∧ x.f1 = s.f1 ∧ x.f2 = s.f2 ∧ x.f3.take 22 = s.f3 := by subst hs; exact ⟨rfl, rfl, rfl, rfl⟩
  have hsm3 : s.f3.length = m := by rw [← hs0.2.2.2, List.length_take]; omega
  have hCs : k26.C w A4 m s.f3 := by
    rw [← hsm3, ← hs0.2.2.2]
    rcases Nat.le_total x.f3.length 22 with h | h
    · rw [List.take_of_length_le h]; exact hC4
    · exact Kd.C_take hC4 (by omega)
  obtain ⟨w1, hw1⟩ : ∃ w1, w.alloc (boxS x A4 c4) = w1 := ⟨_, rfl⟩
  have hb1 : Below w.heap.size w w1 := by rw [← hw1]; exact below_alloc (Below.refl _ _) _
  have hs1 : w1.heap.size = w.heap.size + 1 := by rw [← hw1]; simp
  have hK1 : w1.heap[w.heap.size]? = some (boxS x A4 c4) := by rw [← hw1]; exact heap_alloc_new _ _
  replace hr0 := Aside0.mk (C_kdAt hr0 (below_drew hb1))
  replace hr1 := Aside0.mk (C_kdAt hr1 (below_drew hb1))
  have z4 := Aside0.mk (show w1.cell? ⟨w.heap.size, 4, none⟩ = some (.slice A4 x.f3.length c4) from (blk_cell hK1 4).trans rfl)
  replace hl22 := Lib.hid hl22
  replace hm22' := Lib.hid hm22'
  replace hwf := Aside0.mk hwf
  replace hpos := Aside0.mk hpos
  replace hsc := Lib.hid hsc
  replace hCs := Aside0.mk hCs
  replace hm := Lib.hid hm
  replace hl := Lib.hid hl
  replace hl1 := Lib.hid hl1
  replace hs := Lib.hid hs
  replace hs0 := Lib.hid hs0
  replace hsm3 := Lib.hid hsm3
  clear hC4 g0 g1 g2
  go_enter Try.func6, Try.ntmps6
  go_wp2
  refine start_ (n := 11) (S := fun w' => w'.cell? ⟨w.heap.size, 4, none⟩ = some (.slice A4 x.f3.length c4)) (ds := [10]) #[false, false, false, false, false, false, false, false, false, false, false] (by kernel_rfl) rfl rfl (z4.out) (fun hHeld => ?_)
  refine pure_ (i := 0) (N := some 10) (v := ?_) (a' := ?_) #[true, false, false, false, false, false, false, false, false, false, false] rfl rfl (by kernel_rfl) (fun _ _ _ h => h) (Or.inl ⟨by rfl, ?_⟩) ?_ ?_
  rotate_left
  · intro w'
    go_simp
    with_reducible rfl
  rotate_left
  · simp only [Act.put, List.setIfInBounds_toArray, List.set_cons_zero, List.set_cons_succ, i64_w, i32_w]
    rfl
  refine pure_ (i := 2) (N := some 12) (v := ?_) (a' := ?_) #[true, false, true, false, false, false, false, false, false, false, false] rfl rfl (by kernel_rfl) (fun _ _ _ h => h) (Or.inl ⟨by rfl, ?_⟩) ?_ ?_
  rotate_left
  · intro w'
    go_simp
    with_reducible rfl
  rotate_left
  · simp only [Act.put, List.setIfInBounds_toArray, List.set_cons_zero, List.set_cons_succ, i64_w, i32_w]
    rfl
  refine pure_ (i := 4) (N := some 14) (v := ?_) (a' := ?_) #[true, false, true, false, true, false, false, false, false, false, false] rfl rfl (by kernel_rfl) (fun _ _ _ h => h) (Or.inl ⟨by rfl, ?_⟩) ?_ ?_
  rotate_left
  · intro w'
    go_simp
    with_reducible rfl
  rotate_left
  · simp only [Act.put, List.setIfInBounds_toArray, List.set_cons_zero, List.set_cons_succ, i64_w, i32_w]
    rfl
  refine take_ (i := 5) (N := some 15) (v := ?_) (a' := ?_) #[true, false, true, false, true, true, false, false, false, false, false] rfl rfl (by kernel_rfl) (fun _ _ _ h => h) (Or.inl ⟨by rfl, ?_⟩) hHeld ?_ ?_
  rotate_left
  · intro w' s0
    go_simp
    with_reducible rfl
  rotate_left
  · simp only [Act.put, List.setIfInBounds_toArray, List.set_cons_zero, List.set_cons_succ, i64_w, i32_w]
    rfl
  refine one_ (i := 1) (N := some 11) #[true, true, true, false, true, true, false, false, false, false, false] rfl rfl (by kernel_rfl) (by decide) (fun K hK => ?_)
  refine goes_ Try.func8 (by kernel_rfl) rfl #[.slice A0 l0.length c0] (by rfl) rfl rfl (by simp only [List.map_toArray, List.map_cons, List.map_nil]; rfl) ?_
  with_reducible refine (few_at A0 c0 l0 w _ hr0.out hc0).mono ?_
  rintro e w2 ⟨v, rfl, hR2, hb2⟩
  refine ⟨_, rfl, ?_⟩
  have z42 := (Below.cell (p := ⟨w.heap.size, 4, none⟩) hb2 (blk_lt hK1)).trans z4.out
  rw [hl.out] at hR2
  refine hK.out _ _ (z42) (fun hHeld => ?_)
  clear hK K
  refine norm_ (a' := ?_) ?_ ?_
  rotate_left
  · show Act.put _ (some 11) _ = _
    simp only [Act.put, List.setIfInBounds_toArray, List.set_cons_zero, List.set_cons_succ, i64_w, i32_w]
    rfl
  refine one_ (i := 3) (N := some 13) #[true, true, true, true, true, true, false, false, false, false, false] rfl rfl (by kernel_rfl) (by decide) (fun K hK => ?_)
  refine goes_ Try.func8 (by kernel_rfl) rfl #[.slice A1 l1.length c1] (by rfl) rfl rfl (by simp only [List.map_toArray, List.map_cons, List.map_nil]; rfl) ?_
  with_reducible refine (few_at A1 c1 l1 w _ (Kd.C_below hr1.out hb2) hc1).mono ?_
  rintro e w3 ⟨u, rfl, hR3, hb3⟩
  refine ⟨_, rfl, ?_⟩
  have z43 := (Below.cell (p := ⟨w.heap.size, 4, none⟩) hb3 (block_lt_of_cell z42)).trans z42
  rw [hl1.out] at hR3
  refine hK.out _ _ (z43) (fun hHeld => ?_)
  clear hK K
  refine norm_ (a' := ?_) ?_ ?_
  rotate_left
  · show Act.put _ (some 13) _ = _
    simp only [Act.put, List.setIfInBounds_toArray, List.set_cons_zero, List.set_cons_succ, i64_w, i32_w]
    rfl
  refine one_ (i := 6) (N := some 16) #[true, true, true, true, true, true, true, false, false, false, false] rfl rfl (by kernel_rfl) (by decide) (fun K hK => ?_)
  refine goes_ Try.func21 (by kernel_rfl) rfl #[.slice A4 x.f3.length c4] (by rfl) rfl rfl (by simp only [List.map_toArray, List.map_cons, List.map_nil]; rfl) ?_
  with_reducible refine (points_own A4 c4 x.f3 m _ hm.out hc4).mono ?_
  rintro e w4 ⟨rfl, hb4⟩
  refine ⟨_, rfl, ?_⟩
  have z44 := (Below.cell (p := ⟨w.heap.size, 4, none⟩) hb4 (block_lt_of_cell z43)).trans z43
  have hK4 := (hb4.block _ (block_lt_of_cell z43)).trans ((hb3.block _ (block_lt_of_cell z42)).trans ((hb2.block _ (blk_lt hK1)).trans hK1))
  have f44 := blk_frozen hK4 4
  refine hK.out _ _ (z44) (fun hHeld => ?_)
  clear hK K
  refine norm_ (a' := ?_) ?_ ?_
  rotate_left
  · show Act.put _ (some 16) _ = _
    simp only [Act.put, List.setIfInBounds_toArray, List.set_cons_zero, List.set_cons_succ, i64_w, i32_w]
    rfl
  refine pure_ (i := 7) (N := some 0) (v := ?_) (a' := ?_) #[true, true, true, true, true, true, true, true, false, false, false] rfl rfl (by kernel_rfl) (fun _ _ _ h => h) (Or.inl ⟨by rfl, ?_⟩) ?_ ?_
  rotate_left
  · intro w'
    go_simp
    with_reducible rfl
  rotate_left
  · simp only [Act.put, List.setIfInBounds_toArray, List.set_cons_zero, List.set_cons_succ, i64_w, i32_w]
    rfl
  refine pure_ (i := 8) (N := some 1) (v := ?_) (a' := ?_) #[true, true, true, true, true, true, true, true, true, false, false] rfl rfl (by kernel_rfl) (fun _ _ _ h => h) (Or.inl ⟨by rfl, ?_⟩) ?_ ?_
  rotate_left
  · intro w'
    go_simp
    with_reducible rfl
  rotate_left
  · simp only [Act.put, List.setIfInBounds_toArray, List.set_cons_zero, List.set_cons_succ, i64_w, i32_w]
    rfl
  refine pure_ (i := 9) (N := some 17) (v := ?_) (a' := ?_) #[true, true, true, true, true, true, true, true, true, true, false] rfl rfl (by kernel_rfl) (fun _ _ _ h => h) (Or.inl ⟨by rfl, ?_⟩) ?_ ?_
  rotate_left
  · intro w'
    go_simp
    with_reducible rfl
  rotate_left
  · simp only [Act.put, List.setIfInBounds_toArray, List.set_cons_zero, List.set_cons_succ, i64_w, i32_w]
    rfl
  refine last_ (i := 10) (N := none) #[true, true, true, true, true, true, true, true, true, true, true] rfl rfl (by kernel_rfl) (by decide) (fun K hK => ?_)
  refine skip_ (w1 := ?_) (by rfl) rfl ?_ ?_
  rotate_left
  · go_simp
    rfl
  refine hK.out _ _ ?_
  clear hK K
  refine done_ (by kernel_rfl) ?_
  have hkx := blk_put hK4 4 (.slice A4 m c4) rfl
  have hs1' : w1.drew.heap.size = w.heap.size + 1 := hs1
  have hR24 := Kd.R_below (Kd.R_below hR2 hb3) hb4
  have hR34 := Kd.R_below hR3 hb4
  have hR25 := Kd.R_far (p := ⟨w.heap.size, 4, none⟩) (Kd.R_tight rfl hR24) (fun k hk => by have h1 := Kd.R_base hR24 k hk.symm; show k ≠ w.heap.size; omega) (.slice A4 m c4)
  have hR35 := Kd.R_far (p := ⟨w.heap.size, 4, none⟩) (Kd.R_tight rfl hR34) (fun k hk => by have h1 := Kd.R_base hR34 k hk.symm; have h2 := hb2.size; show k ≠ w.heap.size; omega) (.slice A4 m c4)
  have hB4 : Below w.heap.size w w4 := below_step (below_step (below_step (below_drew hb1) hb2) hb3) hb4
  have hB5 := hB4.grown (set_grown w4 ⟨w.heap.size, 4, none⟩ (.slice A4 m c4)) hB4.size (fun k hk => by cases hk; exact Nat.le_refl _)
  obtain ⟨w5, hw5⟩ : ∃ w5, w4.setCell ⟨w.heap.size, 4, none⟩ (.slice A4 m c4) = w5 := ⟨_, rfl⟩
  rw [hw5] at hkx hR25 hR35 hB5 ⊢
  have hK5 : w5.heap[w.heap.size]? = some (.cells #[.int .u64 s.f0, .string s.f1, .int .u64 s.f2.f0, .string s.f2.f1, .slice A4 m c4] 29 (0, 0)) := by rw [← hs0.out.1, ← hs0.out.2.1, ← hs0.out.2.2.1]; exact hkx
  obtain ⟨A, c, rfl, hcc, hC5⟩ := Kd.R_reads hR25
  obtain ⟨A', c', rfl, hcc', hC5'⟩ := Kd.R_reads hR35
  replace hC5 := Aside0.mk (kdAt_C hC5 hB5)
  replace hC5' := Aside0.mk (kdAt_C hC5' hB5)
  have hCs5 := Aside0.mk (Kd.C_below hCs.out hB5)
  have hqS : Hid (∀ W, Below w5.heap.size w5 W → W.cell? ⟨w.heap.size, 0, none⟩ = some (.int .u64 s.f0) ∧ W.cell? ⟨w.heap.size, 1, none⟩ = some (.string s.f1) ∧ W.cell? ⟨w.heap.size, 2, none⟩ = some (.int .u64 s.f2.f0) ∧ W.cell? ⟨w.heap.size, 3, none⟩ = some (.string s.f2.f1) ∧ W.cell? ⟨w.heap.size, 4, none⟩ = some (.slice A4 m c4)) := Lib.hid fun W hW => box5 ((hW.block _ (blk_lt hK5)).trans hK5)
  have hpub := publish_calls A c l s A4 c4 w5 hC5.out hcc (by omega) hwf.out (by rw [hsm3.out]; exact hCs5.out) (by rw [hsm3.out]; omega) hsc.out.2.1
  rw [show sv s A4 c4 = .agg #[.int .u64 s.f0, .string s.f1, .int .u64 s.f2.f0, .string s.f2.f1, .slice A4 m c4] by rw [← hsm3.out]] at hpub
  replace hpub := Aside0.mk hpub
  obtain ⟨z0, z1, z2, z3, z4⟩ := hqS.out _ (Below.refl _ w5)
  clear hR2 hR3 hR24 hR34 hR25 hR35 hkx hK4 hK5 hHeld z42 z43 z44 f44 hw5 hw1 hK1 hr0 hr1 hb1 hb2 hb3 hb4 hB4 hs1 hs1'
  go_wp2_with fail
  refine hpub.out.mono ?_; rintro e_ w6 ⟨hP, hb6⟩
  have hPW := pub_why hP hl10 hpos.out hsc.out.2.2 hl22.out (by rw [hsm3.out]; exact hm22)
  clear hpub z0 z1 z2 z3 z4 hP
  have hrc := Aside0.mk (right_calls A c l w6 (Kd.C_below hC5.out hb6) hcc (by omega) hwf.out)
  have hrf := right_f l (by omega) hpos.out
  have hsf := same_f l mm (by omega) (fun y hy => by have := hl22.out y hy; omega)
  have hl6 : ∀ y ∈ l, y.f3.length ≤ 1000000 := fun y hy => by have := hl22.out y hy; omega
  replace hl6 := Lib.hid hl6
  rcases hPW with ⟨q, rfl, hq0, hwhy⟩ | ⟨lp, Ap, cp, rfl, hcp, hCp, hlp, hlp3, hwith, hwhy⟩
  · have hq1 : (q != 0) = true := bne_iff_ne.2 hq0
    have hq2 : (q == 0) = false := beq_eq_false_iff_ne.2 hq0
    go_wp2_with fail
    refine hrc.out.mono ?_; rintro e_ w7 ⟨rfl, hb7⟩
    have hB7 := below_step hb6 hb7
    have hrr := Aside0.mk (demurralref15_Right.calls 2000 A c l _ w7 (Kd.C_below hC5.out hB7) hcc hrf)
    clear hrc hrf
    go_wp2_with fail
    refine hrr.out.mono ?_; rintro e_ w8 ⟨rfl, hb8⟩
    have hB8 := below_step hB7 hb8
    have hlk := Aside0.mk (like_calls A c l A' c' mm w8 (Kd.C_below hC5.out hB8) hcc (Kd.C_below hC5'.out hB8) hcc' (by omega) hl6.out)
    clear hrr hb7 hb8 hB7
    go_wp2_with fail
    refine hlk.out.mono ?_; rintro e_ w9 ⟨rfl, hb9⟩
    have hB9 := below_step hB8 hb9
    have hsm := Aside0.mk (demurralref15_Same.calls 2000 A c l A' c' mm _ w9 (Kd.C_below hC5.out hB9) hcc (Kd.C_below hC5'.out hB9) hcc' hsf)
    clear hlk hb9 hB8 hsf
    go_wp2_with fail
    refine hsm.out.mono ?_; rintro e_ w10 ⟨rfl, hb10⟩
    have hB10 := below_step hB9 hb10
    have hll := like_calls A c l A c l w10 (Kd.C_below hC5.out hB10) hcc (Kd.C_below hC5.out hB10) hcc (by omega) hl6.out
    rw [sameB_refl l] at hll
    replace hll := Aside0.mk hll
    clear hsm hb10 hB9
    go_wp2_with fail
    refine hll.out.mono ?_; rintro e_ w11 ⟨rfl, hb11⟩
    have hB11 := below_step hB10 hb11
    clear hll hb11 hB10
    go_wp2_with fail
    refine (alive_calls w11).mono ?_; rintro e_ w12 ⟨rfl, hb12⟩
    have hB12 := below_step hB11 hb12
    clear hb12 hB11
    obtain ⟨z0, z1, z2, z3, z4⟩ := hqS.out _ hB12
    have hwc := demurralref15_Why.calls 2001 A c l s.f0 s.f1 s.f2.f0 s.f2.f1 A4 c4 s.f3 _ w12 (Kd.C_below hC5.out hB12) hcc (by rw [hsm3.out]; exact Kd.C_below hCs5.out hB12) (by rw [hsm3.out]; omega) hwhy
    rw [hsm3.out] at hwc
    replace hwc := Aside0.mk hwc
    clear hwhy
    go_wp2_with fail
    refine hwc.out.mono ?_; rintro e_ w13 ⟨rfl, hb13⟩
    have hB13 := below_step hB12 hb13
    clear hwc hb13 hB12 z0 z1 z2 z3 z4
    go_wp2
    go_ret
    exact ⟨rfl, below_step hB5 hB13⟩
  · replace hCp := Aside0.mk hCp
    replace hwith := Aside0.mk hwith
    replace hlp3 := Lib.hid hlp3
    go_wp2_with fail
    refine hrc.out.mono ?_; rintro e_ w7 ⟨rfl, hb7⟩
    have hP7 := hb7
    have hB7 := below_step hb6 hb7
    have hrr := Aside0.mk (demurralref15_Right.calls 2000 A c l _ w7 (Kd.C_below hC5.out hB7) hcc hrf)
    clear hrc hrf
    go_wp2_with fail
    refine hrr.out.mono ?_; rintro e_ w8 ⟨rfl, hb8⟩
    have hP8 := below_step hP7 hb8
    clear hP7
    have hB8 := below_step hB7 hb8
    have hlk := Aside0.mk (like_calls A c l A' c' mm w8 (Kd.C_below hC5.out hB8) hcc (Kd.C_below hC5'.out hB8) hcc' (by omega) hl6.out)
    clear hrr hb7 hb8 hB7
    go_wp2_with fail
    refine hlk.out.mono ?_; rintro e_ w9 ⟨rfl, hb9⟩
    have hP9 := below_step hP8 hb9
    clear hP8
    have hB9 := below_step hB8 hb9
    have hsm := Aside0.mk (demurralref15_Same.calls 2000 A c l A' c' mm _ w9 (Kd.C_below hC5.out hB9) hcc (Kd.C_below hC5'.out hB9) hcc' hsf)
    clear hlk hb9 hB8 hsf
    go_wp2_with fail
    refine hsm.out.mono ?_; rintro e_ w10 ⟨rfl, hb10⟩
    have hP10 := below_step hP9 hb10
    clear hP9
    have hB10 := below_step hB9 hb10
    have hll := like_calls A c l A c l w10 (Kd.C_below hC5.out hB10) hcc (Kd.C_below hC5.out hB10) hcc (by omega) hl6.out
    rw [sameB_refl l] at hll
    replace hll := Aside0.mk hll
    clear hsm hb10 hB9
    go_wp2_with fail
    refine hll.out.mono ?_; rintro e_ w11 ⟨rfl, hb11⟩
    have hP11 := below_step hP10 hb11
    clear hP10
    have hB11 := below_step hB10 hb11
    clear hll hb11 hB10
    go_wp2_with fail
    refine (alive_calls w11).mono ?_; rintro e_ w12 ⟨rfl, hb12⟩
    have hP12 := below_step hP11 hb12
    clear hP11
    have hB12 := below_step hB11 hb12
    clear hb12 hB11
    obtain ⟨z0, z1, z2, z3, z4⟩ := hqS.out _ hB12
    have hwc := demurralref15_Why.calls 2001 A c l s.f0 s.f1 s.f2.f0 s.f2.f1 A4 c4 s.f3 _ w12 (Kd.C_below hC5.out hB12) hcc (by rw [hsm3.out]; exact Kd.C_below hCs5.out hB12) (by rw [hsm3.out]; omega) hwhy
    rw [hsm3.out] at hwc
    replace hwc := Aside0.mk hwc
    clear hwhy
    go_wp2_with fail
    refine hwc.out.mono ?_; rintro e_ w13 ⟨rfl, hb13⟩
    have hP13 := below_step hP12 hb13
    clear hP12
    have hB13 := below_step hB12 hb13
    clear hwc hb13 hB12 z0 z1 z2 z3 z4
    obtain ⟨z0, z1, z2, z3, z4⟩ := hqS.out _ hB13
    have hwt := demurralref15_With.calls 2000 _ A c l s.f0 s.f1 s.f2.f0 s.f2.f1 _ A4 c4 s.f3 _ w13 (Kd.V_mk hcc (Kd.C_F k29_heap (Kd.C_below hC5.out hB13))) (Kd.V_mk (by rw [hsm3.out]; omega) (Kd.C_F k26_heap (by rw [hsm3.out]; exact Kd.C_below hCs5.out hB13))) hwith.out
    rw [hsm3.out] at hwt
    replace hwt := Aside0.mk hwt
    go_wp2_with fail
    refine hwt.out.mono ?_; rintro e_ w14 ⟨v0, rfl, hN, hb14⟩
    obtain ⟨A9, c9, rfl, hc9, hC9⟩ := Kd.N_reads hN
    have hB14 := below_step hB13 hb14
    have hsame := Aside0.mk (demurralref15_Same.calls 2000 Ap cp lp A9 c9 lp true w14 (Kd.C_below hCp.out (below_step hP13 hb14)) hcp hC9 hc9 (by
      rw [← sameB_refl lp]
      exact same_f _ _ (by omega) (fun y hy => by have := hlp3.out y hy; omega)))
    clear hwt hN hC9 z0 z1 z2 z3 z4 hb14 hB13
    go_wp2_with fail
    refine hsame.out.mono ?_; rintro e_ w15 ⟨rfl, hb15⟩
    go_wp2
    go_ret
    exact ⟨rfl, below_step hB5 (below_step hB14 hb15)⟩
end Go.Proofs.Ytkomcddnfjbifaa.Q
