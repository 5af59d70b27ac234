/- PrekeysPublished: a shelf that was published is fetched as it was, with its first one-time point; all other shelves stay.
   Conditions: the list is read as shelves, and the shelf as one. -/
import Derived.Test.YtkomcddnfjbifaaHLawFetch
import Derived.Test.YtkomcddnfjbifaaHFewAt
import Derived.Test.YtkomcddnfjbifaaHPure4
namespace Go.Proofs.Ytkomcddnfjbifaa.Q
open Go.RowKit Go.Proofs.YtkomcddnfjbifaaW.PrintWords Go.Proofs.YtkomcddnfjbifaaW.PrintLast Go.Proofs.YtkomcddnfjbifaaW.PrintMore
set_option linter.unusedVariables false
set_option linter.unusedSimpArgs false

attribute [local go_sem] max2_int min2_int max_two min_two max_three min_three max_four min_four
theorem fetch_someE {l : List S29} {u : Int} {e : Ending} {w' : World} (h : FetchE l u e w') (hR : rightB l = true) {i : Nat} (hi : i < l.length) (hu : (rd_T29 l (i : Int)).f0 = u) {x : S29} (hx : rd_T29 l (i : Int) = x) :
    ∃ (A : Option Addr) (c : Nat) (B : Option Addr) (c' : Nat), e = .returned (.tuple #[.slice A l.length c, sv { x with f3 := x.f3.take 1 } B c', .int .i64 0]) ∧ l.length ≤ c ∧ k29.C w' A l.length (l.set i { x with f3 := x.f3.drop 1 }) ∧
    (x.f3.take 1).length ≤ c' ∧ k26.C w' B (x.f3.take 1).length (x.f3.take 1) := by
  rcases h with ⟨h, _⟩ | ⟨_, h, _⟩ | ⟨_, j, y, A, c, B, c', hj, hy, hu', h1, h2, h3, h4, h5⟩
  · rw [hR] at h; cases h
  · exact absurd hu (h i hi)
  · obtain rfl := right_one hR hj hi (by rw [hu, hy, hu'])
    obtain rfl : y = x := hy ▸ hx
    exact ⟨A, c, B, c', h1, h2, h3, h4, h5⟩
theorem small_cut {x : S29} (h : good29 x) : (cutS x).f3.length ≤ 22 ∧ (∀ p ∈ (cutS x).f3, (Lit.int .u64 p.f0).wf = true) ∧ ∀ p ∈ (cutS x).f3, 0 ≤ p.f0 := by
  have hw : ∀ p ∈ (cutS x).f3, (Lit.int .u64 p.f0).wf = true := fun p hp => (h.2.2.2.2 p (List.mem_of_mem_take hp)).1
  refine ⟨?_, hw, fun p hp => (bounds_u64 (hw p hp)).1⟩
  show (x.f3.take 22).length ≤ 22
  rw [List.length_take]
  omega
set_option maxHeartbeats 4000000 in
set_option maxRecDepth 100000 in
theorem published_walk (A0 : Option Addr) (c0 : Nat) (l0 : List S29) (x : S29) (A4 : Option Addr) (c4 : Nat) (w : World) (hr0 : Kd.C k29 w A0 l0.length l0) (hc0 : l0.length ≤ c0) (hC4 : Kd.C k26 w A4 x.f3.length x.f3) (hc4 : x.f3.length ≤ c4) (g0 : good22 l0) (g1 : good29 x) :
    Calls Try.prog 5 #[.slice A0 l0.length c0, sv x A4 c4] w fun e w' => e = .returned (.bool true) ∧ Below w.heap.size w w' := by
  have hsm := small_few l0 g0
  have hsc := small_cut g1
  obtain ⟨l, hl⟩ : ∃ l, fewP l0 = l := ⟨_, rfl⟩
  rw [hl] at hsm
  obtain ⟨hl10, hl22, hwf, hpos⟩ := hsm
  obtain ⟨m, hm⟩ : ∃ m, min x.f3.length 22 = m := ⟨_, rfl⟩
  have hm1 : m ≤ x.f3.length := by omega
  have hm22 : m ≤ 22 := by omega
  obtain ⟨s, hs⟩ : ∃ s, cutS x = s := ⟨_, rfl⟩
  rw [hs] at hsc
  have hs0 : x.f0 = s.f0 ∧ x.f1 = s.f1 ∧ x.f2 = s.f2 ∧ x.f3.take 22 = s.f3 := by subst hs; exact ⟨rfl, rfl, rfl, rfl⟩
  have hsm3 : s.f3.length = m := by rw [← hs0.2.2.2, List.length_take]; omega
  have hCs : k26.C w A4 m s.f3 := by
    rw [← hsm3, ← hs0.2.2.2]
    rcases Nat.le_total x.f3.length 22 with h | h
    · rw [List.take_of_length_le h]; exact hC4
    · exact Kd.C_take hC4 (by omega)
  obtain ⟨w1, hw1⟩ : ∃ w1, w.alloc (boxS x A4 c4) = w1 := ⟨_, rfl⟩
  have hb1 : Below w.heap.size w w1 := by rw [← hw1]; exact below_alloc (Below.refl _ _) _
  have hs1 : w1.heap.size = w.heap.size + 1 := by rw [← hw1]; simp
  have hK1 : w1.heap[w.heap.size]? = some (boxS x A4 c4) := by rw [← hw1]; exact heap_alloc_new _ _
  have hr1 := Aside0.mk (C_kdAt hr0 (below_drew hb1))
  have z4 := Aside0.mk (show w1.cell? ⟨w.heap.size, 4, none⟩ = some (.slice A4 x.f3.length c4) from (blk_cell hK1 4).trans rfl)
  replace hl22 := Lib.hid hl22
  replace hwf := Aside0.mk hwf
  replace hpos := Aside0.mk hpos
  replace hsc := Lib.hid hsc
  replace hCs := Aside0.mk hCs
  replace hm := Lib.hid hm
  replace hl := Lib.hid hl
  replace hs := Lib.hid hs
  replace hs0 := Lib.hid hs0
  replace hsm3 := Lib.hid hsm3
  clear hr0 hC4 g0 g1
  go_enter Try.func5, Try.ntmps5
  go_wp2
  refine start_ (n := 8) (S := fun w' => w'.cell? ⟨w.heap.size, 4, none⟩ = some (.slice A4 x.f3.length c4)) (ds := [7]) #[false, false, false, false, false, false, false, false] (by kernel_rfl) rfl rfl (z4.out) (fun hHeld => ?_)
  refine pure_ (i := 0) (N := some 16) (v := ?_) (a' := ?_) #[true, false, false, false, false, false, false, false] rfl rfl (by kernel_rfl) (fun _ _ _ h => h) (Or.inl ⟨by rfl, ?_⟩) ?_ ?_
  rotate_left
  · intro w'
    go_simp
    with_reducible rfl
  rotate_left
  · simp only [Act.put, List.setIfInBounds_toArray, List.set_cons_zero, List.set_cons_succ, i64_w, i32_w]
    rfl
  refine pure_ (i := 2) (N := some 18) (v := ?_) (a' := ?_) #[true, false, true, false, false, false, false, false] rfl rfl (by kernel_rfl) (fun _ _ _ h => h) (Or.inl ⟨by rfl, ?_⟩) ?_ ?_
  rotate_left
  · intro w'
    go_simp
    with_reducible rfl
  rotate_left
  · simp only [Act.put, List.setIfInBounds_toArray, List.set_cons_zero, List.set_cons_succ, i64_w, i32_w]
    rfl
  refine take_ (i := 3) (N := some 19) (v := ?_) (a' := ?_) #[true, false, true, true, false, false, false, false] rfl rfl (by kernel_rfl) (fun _ _ _ h => h) (Or.inl ⟨by rfl, ?_⟩) hHeld ?_ ?_
  rotate_left
  · intro w' s0
    go_simp
    with_reducible rfl
  rotate_left
  · simp only [Act.put, List.setIfInBounds_toArray, List.set_cons_zero, List.set_cons_succ, i64_w, i32_w]
    rfl
  refine one_ (i := 1) (N := some 17) #[true, true, true, true, false, false, false, false] rfl rfl (by kernel_rfl) (by decide) (fun K hK => ?_)
  refine goes_ Try.func8 (by kernel_rfl) rfl #[.slice A0 l0.length c0] (by rfl) rfl rfl (by simp only [List.map_toArray, List.map_cons, List.map_nil]; rfl) ?_
  with_reducible refine (few_at A0 c0 l0 w _ hr1.out hc0).mono ?_
  rintro e w2 ⟨v, rfl, hR2, hb2⟩
  refine ⟨_, rfl, ?_⟩
  have z42 := (Below.cell (p := ⟨w.heap.size, 4, none⟩) hb2 (blk_lt hK1)).trans z4.out
  rw [hl.out] at hR2
  refine hK.out _ _ (z42) (fun hHeld => ?_)
  clear hK K
  refine norm_ (a' := ?_) ?_ ?_
  rotate_left
  · show Act.put _ (some 17) _ = _
    simp only [Act.put, List.setIfInBounds_toArray, List.set_cons_zero, List.set_cons_succ, i64_w, i32_w]
    rfl
  refine one_ (i := 4) (N := some 20) #[true, true, true, true, true, false, false, false] rfl rfl (by kernel_rfl) (by decide) (fun K hK => ?_)
  refine goes_ Try.func21 (by kernel_rfl) rfl #[.slice A4 x.f3.length c4] (by rfl) rfl rfl (by simp only [List.map_toArray, List.map_cons, List.map_nil]; rfl) ?_
  with_reducible refine (points_own A4 c4 x.f3 m _ hm.out hc4).mono ?_
  rintro e w3 ⟨rfl, hb3⟩
  refine ⟨_, rfl, ?_⟩
  have z43 := (Below.cell (p := ⟨w.heap.size, 4, none⟩) hb3 (block_lt_of_cell z42)).trans z42
  have hK3 := (hb3.block _ (block_lt_of_cell z42)).trans ((hb2.block _ (blk_lt hK1)).trans hK1)
  have f43 := blk_frozen hK3 4
  refine hK.out _ _ (z43) (fun hHeld => ?_)
  clear hK K
  refine norm_ (a' := ?_) ?_ ?_
  rotate_left
  · show Act.put _ (some 20) _ = _
    simp only [Act.put, List.setIfInBounds_toArray, List.set_cons_zero, List.set_cons_succ, i64_w, i32_w]
    rfl
  refine pure_ (i := 5) (N := some 0) (v := ?_) (a' := ?_) #[true, true, true, true, true, true, false, false] rfl rfl (by kernel_rfl) (fun _ _ _ h => h) (Or.inl ⟨by rfl, ?_⟩) ?_ ?_
  rotate_left
  · intro w'
    go_simp
    with_reducible rfl
  rotate_left
  · simp only [Act.put, List.setIfInBounds_toArray, List.set_cons_zero, List.set_cons_succ, i64_w, i32_w]
    rfl
  refine pure_ (i := 6) (N := some 21) (v := ?_) (a' := ?_) #[true, true, true, true, true, true, true, false] rfl rfl (by kernel_rfl) (fun _ _ _ h => h) (Or.inl ⟨by rfl, ?_⟩) ?_ ?_
  rotate_left
  · intro w'
    go_simp
    with_reducible rfl
  rotate_left
  · simp only [Act.put, List.setIfInBounds_toArray, List.set_cons_zero, List.set_cons_succ, i64_w, i32_w]
    rfl
  refine last_ (i := 7) (N := none) #[true, true, true, true, true, true, true, true] rfl rfl (by kernel_rfl) (by decide) (fun K hK => ?_)
  refine skip_ (w1 := ?_) (by rfl) rfl ?_ ?_
  rotate_left
  · go_simp
    rfl
  refine hK.out _ _ ?_
  clear hK K
  refine done_ (by kernel_rfl) ?_
  have hR3 := Kd.R_below hR2 hb3
  have hKx := blk_put hK3 4 (.slice A4 m c4) rfl
  have hR4 := Kd.R_far (p := ⟨w.heap.size, 4, none⟩) (Kd.R_tight rfl hR3) (fun k hk => by have h1 := Kd.R_base hR3 k hk.symm; have h2 : w1.drew.heap.size = w.heap.size + 1 := hs1; show k ≠ w.heap.size; omega) (.slice A4 m c4)
  have hB3 : Below w.heap.size w w3 := below_step (below_step (below_drew hb1) hb2) hb3
  have hB4 := hB3.grown (set_grown w3 ⟨w.heap.size, 4, none⟩ (.slice A4 m c4)) hB3.size (fun k hk => by cases hk; exact Nat.le_refl _)
  obtain ⟨w4, hw4⟩ : ∃ w4, w3.setCell ⟨w.heap.size, 4, none⟩ (.slice A4 m c4) = w4 := ⟨_, rfl⟩
  rw [hw4] at hKx hR4 hB4 ⊢
  have hK4 : w4.heap[w.heap.size]? = some (.cells #[.int .u64 s.f0, .string s.f1, .int .u64 s.f2.f0, .string s.f2.f1, .slice A4 m c4] 29 (0, 0)) := by rw [← hs0.out.1, ← hs0.out.2.1, ← hs0.out.2.2.1]; exact hKx
  obtain ⟨A, c, rfl, hcc, hC4⟩ := Kd.R_reads hR4
  replace hC4 := Aside0.mk (kdAt_C hC4 hB4)
  have hCs4 := Aside0.mk (Kd.C_below hCs.out hB4)
  have hqS : Hid (∀ W, Below w4.heap.size w4 W → W.cell? ⟨w.heap.size, 0, none⟩ = some (.int .u64 s.f0) ∧ W.cell? ⟨w.heap.size, 1, none⟩ = some (.string s.f1) ∧ W.cell? ⟨w.heap.size, 2, none⟩ = some (.int .u64 s.f2.f0) ∧ W.cell? ⟨w.heap.size, 3, none⟩ = some (.string s.f2.f1) ∧ W.cell? ⟨w.heap.size, 4, none⟩ = some (.slice A4 m c4)) := Lib.hid fun W hW => box5 ((hW.block _ (blk_lt hK4)).trans hK4)
  have hpub := publish_calls A c l s A4 c4 w4 hC4.out hcc (by omega) hwf.out (by rw [hsm3.out]; exact hCs4.out) (by rw [hsm3.out]; omega) hsc.out.2.1
  rw [show sv s A4 c4 = .agg #[.int .u64 s.f0, .string s.f1, .int .u64 s.f2.f0, .string s.f2.f1, .slice A4 m c4] by rw [← hsm3.out]] at hpub
  replace hpub := Aside0.mk hpub
  obtain ⟨z0, z1, z2, z3, z4⟩ := hqS.out _ (Below.refl _ w4)
  clear hR2 hR3 hR4 hKx hK4 hK3 hHeld z42 z43 f43 hw4 hw1 hK1 hr1 hb1 hb2 hb3 hB3
  go_wp2_with fail
  refine hpub.out.mono ?_; rintro e_ w5 ⟨hP, hb5⟩
  clear hpub z0 z1 z2 z3 z4
  rcases pub_cases hP with ⟨q, rfl, hq0⟩ | ⟨hS, lp, i, Ap, cp, ⟨hlp8, hi, hri, hRp, hmem, hall⟩, rfl, hcp, hCp⟩
  · have hq1 : (q != 0) = true := bne_iff_ne.2 hq0
    have hq2 : (q == 0) = false := beq_eq_false_iff_ne.2 hq0
    clear hP
    go_wp2_with fail
    refine (alive_calls w5).mono ?_; rintro e_ w6 ⟨rfl, hb6⟩
    go_wp2
    go_ret
    exact ⟨rfl, below_step hB4 (below_step hb5 hb6)⟩
  · clear hP
    have hwfp : ∀ y ∈ lp, ∀ p ∈ y.f3, (Lit.int .u64 p.f0).wf = true := fun y hy => by
      rcases hmem y hy with rfl | h
      · exact hsc.out.2.1
      · exact hwf.out y h
    have hfc := Aside0.mk (fetch_calls Ap cp lp s.f0 w5 hCp hcp (by omega) hwfp)
    obtain ⟨z0, z1, z2, z3, z4⟩ := hqS.out _ hb5
    clear z1 z2 z3 z4
    go_wp2_with fail
    refine hfc.out.mono ?_; rintro e_ w6 ⟨hF, hb6⟩
    obtain ⟨Al, cl, B, cB, rfl, hcl, hCl, hcB, hCB⟩ := fetch_someE hF hRp hi (by rw [hri]) hri
    clear hF hfc z0
    obtain ⟨n1, hn1⟩ : ∃ n1, (s.f3.take 1).length = n1 := ⟨_, rfl⟩
    obtain ⟨d, hd⟩ : ∃ d, (s.f3.drop 1).length = d := ⟨_, rfl⟩
    obtain ⟨ll, hll⟩ : ∃ ll, lp.set i { s with f3 := s.f3.drop 1 } = ll := ⟨_, rfl⟩
    have hllen : ll.length = lp.length := by rw [← hll]; exact List.length_set
    rw [hll] at hCl
    rw [hn1] at hcB hCB
    rw [show sv { s with f3 := s.f3.take 1 } B cB = .agg #[.int .u64 s.f0, .string s.f1, .int .u64 s.f2.f0, .string s.f2.f1, .slice B n1 cB] by rw [← hn1]]
    have hri' : rd_T29 ll (i : Int) = { s with f3 := s.f3.drop 1 } := by rw [← hll, rd_set lp i _ i hi, if_pos rfl]
    have hRl : rightB ll = true := by rw [← hll]; exact right_set hRp i _ hi (by rw [hri]) (shelfB_drop hS 1)
    have hwfl : ∀ y ∈ ll, ∀ p ∈ y.f3, (Lit.int .u64 p.f0).wf = true := fun y hy p hp => by
      rw [← hll] at hy
      rcases List.mem_or_eq_of_mem_set hy with h | rfl
      · exact hwfp y h p hp
      · exact hsc.out.2.1 p (List.mem_of_mem_drop hp)
    have hmn : m = s.f3.length := hsm3.out.symm
    have hn1m : n1 = min m 1 := by rw [← hn1, List.length_take, hmn, Nat.min_comm]
    have hdm : d = m - n1 := by rw [← hd, List.length_drop, hmn, hn1m, hmn]; omega
    have hmin : (if (1 : Int) < (m : Int) then (1 : Int) else (m : Int)) = (n1 : Int) := by split <;> omega
    have hwd : wrap64 ((m : Int) - (n1 : Int)) = (d : Int) := (wrap_in' _ (by omega) (by omega)).trans (by omega)
    have hn1le : n1 ≤ m := by omega
    have hn1le' : (n1 : Int) ≤ m := by omega
    obtain ⟨i0, hi0, _, hsz, _⟩ := info_parts info26
    have hcut := cut_to (P := Try.prog) 27 26 .i64 Try.underlying27 hi0 A4 m c4 (n1 : Int) (by omega) (by omega) (by omega)
    rw [Int.toNat_natCast] at hcut
    clear hi0
    replace hmn := Lib.hid hmn
    replace hn1m := Lib.hid hn1m
    replace hdm := Lib.hid hdm
    replace hn1 := Lib.hid hn1
    replace hd := Lib.hid hd
    replace hll := Lib.hid hll
    replace hllen := Lib.hid hllen
    replace hri := Lib.hid hri
    replace hri' := Lib.hid hri'
    replace hCl := Aside0.mk hCl
    replace hCB := Aside0.mk hCB
    replace hwd := hwd
    obtain ⟨w7, hw7⟩ : ∃ w7, w6.alloc (.cells #[.int .u64 0, .string ⟨#[]⟩, .int .u64 0, .string ⟨#[]⟩, .slice none 0 0] 29 (0, 0)) = w7 := ⟨_, rfl⟩
    have hb7 : Below w6.heap.size w6 w7 := by rw [← hw7]; exact below_alloc (Below.refl _ _) _
    have hK7 : w7.heap[w6.heap.size]? = some (.cells #[.int .u64 0, .string ⟨#[]⟩, .int .u64 0, .string ⟨#[]⟩, .slice none 0 0] 29 (0, 0)) := by rw [← hw7]; exact heap_alloc_new _ _
    go_wp2_with ((with_reducible refine gate_store (t := 29) (p := 8) rfl ?_); go_loud (refine wpList_storeBox rfl rfl 29 (.tmp 8) (.tmp 42) rfl (.agg #[.int .u64 s.f0, .string s.f1, .int .u64 s.f2.f0, .string s.f2.f1, .slice B n1 cB]) [.int .u64 s.f0, .string s.f1, .int .u64 s.f2.f0, .string s.f2.f1, .slice B n1 cB] rfl rfl rfl (by kernel_rfl) (by simp [Value.oneCell']) hK7 rfl ?_); intro w8 hK8 hg8 hs8; have hb68 := Aside0.mk (pw_below_grown hb7 _ hb7.size hg8 (fun k hk => by cases hk; exact Nat.le_refl _)); clear hw7 hb7 hK7 hg8; obtain ⟨z0, _, _, _, z4⟩ := hqS.out _ (below_step hb5 (below_step hb6 hb68.out)))
    have hlc := left_calls Al cl ll s.f0 w8 (by rw [hllen.out]; exact Kd.C_below hCl.out hb68.out) (by rw [hllen.out]; exact hcl) (by rw [hllen.out]; omega) hwfl
    rw [hllen.out] at hlc
    replace hlc := Aside0.mk hlc
    clear z0 z4
    go_wp2_with fail
    refine hlc.out.mono ?_; rintro e_ w9 ⟨hle, hb9⟩
    replace hle := left_some hle hRl (i := i) (by rw [hllen.out]; exact hi) (by rw [hri'.out])
    rw [hri'.out, show ({ s with f3 := s.f3.drop 1 } : S29).f3.length = d from hd.out] at hle
    subst hle
    clear hlc
    have HB9 := Aside0.mk (below_step hb5 (below_step hb6 (below_step hb68.out hb9)))
    have hK9 := (hb9.block _ (blk_lt hK8)).trans hK8
    have hqG : Hid (∀ W, Below w9.heap.size w9 W → W.cell? ⟨w6.heap.size, 0, none⟩ = some (.int .u64 s.f0) ∧ W.cell? ⟨w6.heap.size, 1, none⟩ = some (.string s.f1) ∧ W.cell? ⟨w6.heap.size, 2, none⟩ = some (.int .u64 s.f2.f0) ∧ W.cell? ⟨w6.heap.size, 3, none⟩ = some (.string s.f2.f1) ∧ W.cell? ⟨w6.heap.size, 4, none⟩ = some (.slice B n1 cB)) := Lib.hid fun W hW => box5 ((hW.block _ (blk_lt hK9)).trans hK9)
    obtain ⟨_, _, _, _, z4⟩ := hqS.out _ HB9.out
    have hB69 := Aside0.mk (below_step hb68.out hb9)
    have hpc : Hid (∀ W, Below w9.heap.size w9 W → Calls Try.prog 20 #[.slice B n1 cB, .slice A4 n1 c4] W fun e w' => e = .returned (.bool true) ∧ Drawn0 W w') := Lib.hid fun W hW => by
      have h1 : k26.C W B n1 (s.f3.take 1) := Kd.C_below hCB.out (below_step hB69.out hW)
      have h2 : k26.C W A4 n1 (s.f3.take 1) := by
        have h3 : k26.C W A4 m s.f3 := Kd.C_below hCs4.out (below_step HB9.out hW)
        rw [← hn1.out]
        rcases Nat.eq_zero_or_pos m with h | h
        · rw [List.take_of_length_le (show s.f3.length ≤ 1 by rw [← hmn.out]; omega), ← hmn.out]; exact h3
        · rw [hmn.out] at h3
          exact Kd.C_take h3 (by have := hmn.out; omega)
      rw [← hn1.out] at h1 h2 hcB hn1le ⊢
      exact demurralref15_PointsSame.calls 100 B cB (s.f3.take 1) A4 c4 (s.f3.take 1) true W h1 hcB h2 (by have := hm1; omega) (by rw [← ptsB_refl (s.f3.take 1)]; exact pts_f _ _ (by omega) 100 (by omega))
    have hrc : Hid (∀ W, Below w9.heap.size w9 W → Calls Try.prog 19 #[.slice Al lp.length cl] W fun e w' => e = .returned (.bool true) ∧ Below W.heap.size W w') := Lib.hid fun W hW => by
      have := right_calls Al cl ll W (by rw [hllen.out]; exact Kd.C_below hCl.out (below_step hB69.out hW)) (by rw [hllen.out]; exact hcl) (by rw [hllen.out]; omega) hwfl
      rw [hRl, hllen.out] at this
      exact this
    clear hK8 hK9
    go_wp2
    refine start_ (n := 55) (S := fun w' => w'.cell? ⟨w6.heap.size, 0, none⟩ = some (.int .u64 s.f0) ∧ w'.cell? ⟨w6.heap.size, 1, none⟩ = some (.string s.f1) ∧ w'.cell? ⟨w6.heap.size, 2, none⟩ = some (.int .u64 s.f2.f0) ∧ w'.cell? ⟨w6.heap.size, 3, none⟩ = some (.string s.f2.f1) ∧ w'.cell? ⟨w6.heap.size, 4, none⟩ = some (.slice B n1 cB) ∧ w'.cell? ⟨w.heap.size, 0, none⟩ = some (.int .u64 s.f0) ∧ w'.cell? ⟨w.heap.size, 1, none⟩ = some (.string s.f1) ∧ w'.cell? ⟨w.heap.size, 2, none⟩ = some (.int .u64 s.f2.f0) ∧ w'.cell? ⟨w.heap.size, 3, none⟩ = some (.string s.f2.f1) ∧ w'.cell? ⟨w.heap.size, 4, none⟩ = some (.slice A4 m c4)) (ds := []) #[false, false, false, false, false, false, false, false, false, false, false, false, false, false, false, false, false, false, false, false, false, false, false, false, false, false, false, false, false, false, false, false, false, false, false, false, false, false, false, false, false, false, false, false, false, false, false, false, false, false, false, false, false, false, false] (by kernel_rfl) rfl rfl ⟨(hqG.out _ (Below.refl w9.heap.size w9).drew).1, (hqG.out _ (Below.refl w9.heap.size w9).drew).2.1, (hqG.out _ (Below.refl w9.heap.size w9).drew).2.2.1, (hqG.out _ (Below.refl w9.heap.size w9).drew).2.2.2.1, (hqG.out _ (Below.refl w9.heap.size w9).drew).2.2.2.2, (hqS.out _ (below_step HB9.out (Below.refl w9.heap.size w9).drew)).1, (hqS.out _ (below_step HB9.out (Below.refl w9.heap.size w9).drew)).2.1, (hqS.out _ (below_step HB9.out (Below.refl w9.heap.size w9).drew)).2.2.1, (hqS.out _ (below_step HB9.out (Below.refl w9.heap.size w9).drew)).2.2.2.1, (hqS.out _ (below_step HB9.out (Below.refl w9.heap.size w9).drew)).2.2.2.2⟩ (fun hHeld => ?_)
    refine pure_ (i := 0) (N := some 55) (v := ?_) (a' := ?_) #[true, false, false, false, false, false, false, false, false, false, false, false, false, false, false, false, false, false, false, false, false, false, false, false, false, false, false, false, false, false, false, false, false, false, false, false, false, false, false, false, false, false, false, false, false, false, false, false, false, false, false, false, false, false, false] rfl rfl (by kernel_rfl) (fun _ _ _ h => h) (Or.inl ⟨by rfl, ?_⟩) ?_ ?_
    rotate_left
    · intro w'
      go_simp
      with_reducible rfl
    rotate_left
    · simp only [Act.put, List.setIfInBounds_toArray, List.set_cons_zero, List.set_cons_succ, i64_w, i32_w]
      rfl
    refine pure_ (i := 1) (N := some 56) (v := ?_) (a' := ?_) #[true, true, false, false, false, false, false, false, false, false, false, false, false, false, false, false, false, false, false, false, false, false, false, false, false, false, false, false, false, false, false, false, false, false, false, false, false, false, false, false, false, false, false, false, false, false, false, false, false, false, false, false, false, false, false] rfl rfl (by kernel_rfl) (fun _ _ _ h => h) (Or.inl ⟨by rfl, ?_⟩) ?_ ?_
    rotate_left
    · intro w'
      go_simp
      with_reducible rfl
    rotate_left
    · simp only [Act.put, List.setIfInBounds_toArray, List.set_cons_zero, List.set_cons_succ, i64_w, i32_w]
      rfl
    refine pure_ (i := 2) (N := some 57) (v := ?_) (a' := ?_) #[true, true, true, false, false, false, false, false, false, false, false, false, false, false, false, false, false, false, false, false, false, false, false, false, false, false, false, false, false, false, false, false, false, false, false, false, false, false, false, false, false, false, false, false, false, false, false, false, false, false, false, false, false, false, false] rfl rfl (by kernel_rfl) (fun _ _ _ h => h) (Or.inl ⟨by rfl, ?_⟩) ?_ ?_
    rotate_left
    · intro w'
      go_simp
      with_reducible rfl
    rotate_left
    · simp only [Act.put, List.setIfInBounds_toArray, List.set_cons_zero, List.set_cons_succ, i64_w, i32_w]
      rfl
    refine pure_ (i := 3) (N := some 58) (v := ?_) (a' := ?_) #[true, true, true, true, false, false, false, false, false, false, false, false, false, false, false, false, false, false, false, false, false, false, false, false, false, false, false, false, false, false, false, false, false, false, false, false, false, false, false, false, false, false, false, false, false, false, false, false, false, false, false, false, false, false, false] rfl rfl (by kernel_rfl) (fun _ _ _ h => h) (Or.inl ⟨by rfl, ?_⟩) ?_ ?_
    rotate_left
    · intro w'
      go_simp
      with_reducible rfl
    rotate_left
    · simp only [Act.put, List.setIfInBounds_toArray, List.set_cons_zero, List.set_cons_succ, i64_w, i32_w]
      rfl
    refine pure_ (i := 4) (N := some 59) (v := ?_) (a' := ?_) #[true, true, true, true, true, false, false, false, false, false, false, false, false, false, false, false, false, false, false, false, false, false, false, false, false, false, false, false, false, false, false, false, false, false, false, false, false, false, false, false, false, false, false, false, false, false, false, false, false, false, false, false, false, false, false] rfl rfl (by kernel_rfl) (fun _ _ _ h => h) (Or.inl ⟨by rfl, ?_⟩) ?_ ?_
    rotate_left
    · intro w'
      go_simp
      with_reducible rfl
    rotate_left
    · simp only [Act.put, List.setIfInBounds_toArray, List.set_cons_zero, List.set_cons_succ, i64_w, i32_w]
      rfl
    refine pure_ (i := 5) (N := some 60) (v := ?_) (a' := ?_) #[true, true, true, true, true, true, false, false, false, false, false, false, false, false, false, false, false, false, false, false, false, false, false, false, false, false, false, false, false, false, false, false, false, false, false, false, false, false, false, false, false, false, false, false, false, false, false, false, false, false, false, false, false, false, false] rfl rfl (by kernel_rfl) (fun _ _ _ h => h) (Or.inl ⟨by rfl, ?_⟩) ?_ ?_
    rotate_left
    · intro w'
      go_simp
      with_reducible rfl
    rotate_left
    · simp only [Act.put, List.setIfInBounds_toArray, List.set_cons_zero, List.set_cons_succ, i64_w, i32_w]
      rfl
    refine pure_ (i := 6) (N := some 61) (v := ?_) (a' := ?_) #[true, true, true, true, true, true, true, false, false, false, false, false, false, false, false, false, false, false, false, false, false, false, false, false, false, false, false, false, false, false, false, false, false, false, false, false, false, false, false, false, false, false, false, false, false, false, false, false, false, false, false, false, false, false, false] rfl rfl (by kernel_rfl) (fun _ _ _ h => h) (Or.inl ⟨by rfl, ?_⟩) ?_ ?_
    rotate_left
    · intro w'
      go_simp
      with_reducible rfl
    rotate_left
    · simp only [Act.put, List.setIfInBounds_toArray, List.set_cons_zero, List.set_cons_succ, i64_w, i32_w]
      rfl
    refine pure_ (i := 7) (N := some 62) (v := ?_) (a' := ?_) #[true, true, true, true, true, true, true, true, false, false, false, false, false, false, false, false, false, false, false, false, false, false, false, false, false, false, false, false, false, false, false, false, false, false, false, false, false, false, false, false, false, false, false, false, false, false, false, false, false, false, false, false, false, false, false] rfl rfl (by kernel_rfl) (fun _ _ _ h => h) (Or.inl ⟨by rfl, ?_⟩) ?_ ?_
    rotate_left
    · intro w'
      go_simp
      with_reducible rfl
    rotate_left
    · simp only [Act.put, List.setIfInBounds_toArray, List.set_cons_zero, List.set_cons_succ, i64_w, i32_w]
      rfl
    refine pure_ (i := 9) (N := some 64) (v := ?_) (a' := ?_) #[true, true, true, true, true, true, true, true, false, true, false, false, false, false, false, false, false, false, false, false, false, false, false, false, false, false, false, false, false, false, false, false, false, false, false, false, false, false, false, false, false, false, false, false, false, false, false, false, false, false, false, false, false, false, false] rfl rfl (by kernel_rfl) (fun _ _ _ h => h) (Or.inl ⟨by rfl, ?_⟩) ?_ ?_
    rotate_left
    · intro w'
      go_simp
      with_reducible rfl
    rotate_left
    · simp only [Act.put, List.setIfInBounds_toArray, List.set_cons_zero, List.set_cons_succ, i64_w, i32_w]
      rfl
    refine take_ (i := 8) (N := some 63) (v := ?_) (a' := ?_) #[true, true, true, true, true, true, true, true, true, true, false, false, false, false, false, false, false, false, false, false, false, false, false, false, false, false, false, false, false, false, false, false, false, false, false, false, false, false, false, false, false, false, false, false, false, false, false, false, false, false, false, false, false, false, false] rfl rfl (by kernel_rfl) (fun _ _ _ h => h) (Or.inl ⟨by rfl, ?_⟩) hHeld ?_ ?_
    rotate_left
    · rintro w' ⟨s0, s1, s2, s3, s4, s5, s6, s7, s8, s9⟩
      go_simp
      with_reducible rfl
    rotate_left
    · simp only [Act.put, List.setIfInBounds_toArray, List.set_cons_zero, List.set_cons_succ, i64_w, i32_w]
      rfl
    refine take_ (i := 10) (N := some 65) (v := ?_) (a' := ?_) #[true, true, true, true, true, true, true, true, true, true, true, false, false, false, false, false, false, false, false, false, false, false, false, false, false, false, false, false, false, false, false, false, false, false, false, false, false, false, false, false, false, false, false, false, false, false, false, false, false, false, false, false, false, false, false] rfl rfl (by kernel_rfl) (fun _ _ _ h => h) (Or.inl ⟨by rfl, ?_⟩) hHeld ?_ ?_
    rotate_left
    · rintro w' ⟨s0, s1, s2, s3, s4, s5, s6, s7, s8, s9⟩
      go_simp
      with_reducible rfl
    rotate_left
    · simp only [Act.put, List.setIfInBounds_toArray, List.set_cons_zero, List.set_cons_succ, i64_w, i32_w]
      rfl
    refine pure_ (i := 11) (N := some 66) (v := ?_) (a' := ?_) #[true, true, true, true, true, true, true, true, true, true, true, true, false, false, false, false, false, false, false, false, false, false, false, false, false, false, false, false, false, false, false, false, false, false, false, false, false, false, false, false, false, false, false, false, false, false, false, false, false, false, false, false, false, false, false] rfl rfl (by kernel_rfl) (fun _ _ _ h => h) (Or.inl ⟨by rfl, ?_⟩) ?_ ?_
    rotate_left
    · intro w'
      go_simp
      with_reducible rfl
    rotate_left
    · simp only [Act.put, List.setIfInBounds_toArray, List.set_cons_zero, List.set_cons_succ, i64_w, i32_w]
      rfl
    refine pure_ (i := 12) (N := some 67) (v := ?_) (a' := ?_) #[true, true, true, true, true, true, true, true, true, true, true, true, true, false, false, false, false, false, false, false, false, false, false, false, false, false, false, false, false, false, false, false, false, false, false, false, false, false, false, false, false, false, false, false, false, false, false, false, false, false, false, false, false, false, false] rfl rfl (by kernel_rfl) (fun _ _ _ h => h) (Or.inl ⟨by rfl, ?_⟩) ?_ ?_
    rotate_left
    · intro w'
      go_simp
      with_reducible rfl
    rotate_left
    · simp only [Act.put, List.setIfInBounds_toArray, List.set_cons_zero, List.set_cons_succ, i64_w, i32_w]
      rfl
    refine pure_ (i := 13) (N := some 68) (v := ?_) (a' := ?_) #[true, true, true, true, true, true, true, true, true, true, true, true, true, true, false, false, false, false, false, false, false, false, false, false, false, false, false, false, false, false, false, false, false, false, false, false, false, false, false, false, false, false, false, false, false, false, false, false, false, false, false, false, false, false, false] rfl rfl (by kernel_rfl) (fun _ _ _ h => h) (Or.inl ⟨by rfl, ?_⟩) ?_ ?_
    rotate_left
    · intro w'
      go_simp
      with_reducible rfl
    rotate_left
    · simp only [Act.put, List.setIfInBounds_toArray, List.set_cons_zero, List.set_cons_succ, i64_w, i32_w]
      rfl
    refine pure_ (i := 14) (N := some 69) (v := ?_) (a' := ?_) #[true, true, true, true, true, true, true, true, true, true, true, true, true, true, true, false, false, false, false, false, false, false, false, false, false, false, false, false, false, false, false, false, false, false, false, false, false, false, false, false, false, false, false, false, false, false, false, false, false, false, false, false, false, false, false] rfl rfl (by kernel_rfl) (fun _ _ _ h => h) (Or.inl ⟨by rfl, ?_⟩) ?_ ?_
    rotate_left
    · intro w'
      go_simp
      with_reducible rfl
    rotate_left
    · simp only [Act.put, List.setIfInBounds_toArray, List.set_cons_zero, List.set_cons_succ, i64_w, i32_w]
      rfl
    refine pure_ (i := 16) (N := some 71) (v := ?_) (a' := ?_) #[true, true, true, true, true, true, true, true, true, true, true, true, true, true, true, false, true, false, false, false, false, false, false, false, false, false, false, false, false, false, false, false, false, false, false, false, false, false, false, false, false, false, false, false, false, false, false, false, false, false, false, false, false, false, false] rfl rfl (by kernel_rfl) (fun _ _ _ h => h) (Or.inl ⟨by rfl, ?_⟩) ?_ ?_
    rotate_left
    · intro w'
      go_simp
      with_reducible rfl
    rotate_left
    · simp only [Act.put, List.setIfInBounds_toArray, List.set_cons_zero, List.set_cons_succ, i64_w, i32_w]
      rfl
    refine take_ (i := 15) (N := some 70) (v := ?_) (a' := ?_) #[true, true, true, true, true, true, true, true, true, true, true, true, true, true, true, true, true, false, false, false, false, false, false, false, false, false, false, false, false, false, false, false, false, false, false, false, false, false, false, false, false, false, false, false, false, false, false, false, false, false, false, false, false, false, false] rfl rfl (by kernel_rfl) (fun _ _ _ h => h) (Or.inl ⟨by rfl, ?_⟩) hHeld ?_ ?_
    rotate_left
    · rintro w' ⟨s0, s1, s2, s3, s4, s5, s6, s7, s8, s9⟩
      go_simp
      with_reducible rfl
    rotate_left
    · simp only [Act.put, List.setIfInBounds_toArray, List.set_cons_zero, List.set_cons_succ, i64_w, i32_w]
      rfl
    refine take_ (i := 17) (N := some 72) (v := ?_) (a' := ?_) #[true, true, true, true, true, true, true, true, true, true, true, true, true, true, true, true, true, true, false, false, false, false, false, false, false, false, false, false, false, false, false, false, false, false, false, false, false, false, false, false, false, false, false, false, false, false, false, false, false, false, false, false, false, false, false] rfl rfl (by kernel_rfl) (fun _ _ _ h => h) (Or.inl ⟨by rfl, ?_⟩) hHeld ?_ ?_
    rotate_left
    · rintro w' ⟨s0, s1, s2, s3, s4, s5, s6, s7, s8, s9⟩
      go_simp
      with_reducible rfl
    rotate_left
    · simp only [Act.put, List.setIfInBounds_toArray, List.set_cons_zero, List.set_cons_succ, i64_w, i32_w]
      rfl
    refine pure_ (i := 18) (N := some 73) (v := ?_) (a' := ?_) #[true, true, true, true, true, true, true, true, true, true, true, true, true, true, true, true, true, true, true, false, false, false, false, false, false, false, false, false, false, false, false, false, false, false, false, false, false, false, false, false, false, false, false, false, false, false, false, false, false, false, false, false, false, false, false] rfl rfl (by kernel_rfl) (fun _ _ _ h => h) (Or.inl ⟨by rfl, ?_⟩) ?_ ?_
    rotate_left
    · intro w'
      go_simp
      with_reducible rfl
    rotate_left
    · simp only [Act.put, List.setIfInBounds_toArray, List.set_cons_zero, List.set_cons_succ, i64_w, i32_w]
      rfl
    refine pure_ (i := 19) (N := some 74) (v := ?_) (a' := ?_) #[true, true, true, true, true, true, true, true, true, true, true, true, true, true, true, true, true, true, true, true, false, false, false, false, false, false, false, false, false, false, false, false, false, false, false, false, false, false, false, false, false, false, false, false, false, false, false, false, false, false, false, false, false, false, false] rfl rfl (by kernel_rfl) (fun _ _ _ h => h) (Or.inl ⟨by rfl, ?_⟩) ?_ ?_
    rotate_left
    · intro w'
      go_simp
      with_reducible rfl
    rotate_left
    · simp only [Act.put, List.setIfInBounds_toArray, List.set_cons_zero, List.set_cons_succ, i64_w, i32_w]
      rfl
    refine pure_ (i := 20) (N := some 75) (v := ?_) (a' := ?_) #[true, true, true, true, true, true, true, true, true, true, true, true, true, true, true, true, true, true, true, true, true, false, false, false, false, false, false, false, false, false, false, false, false, false, false, false, false, false, false, false, false, false, false, false, false, false, false, false, false, false, false, false, false, false, false] rfl rfl (by kernel_rfl) (fun _ _ _ h => h) (Or.inl ⟨by rfl, ?_⟩) ?_ ?_
    rotate_left
    · intro w'
      go_simp
      with_reducible rfl
    rotate_left
    · simp only [Act.put, List.setIfInBounds_toArray, List.set_cons_zero, List.set_cons_succ, i64_w, i32_w]
      rfl
    refine pure_ (i := 21) (N := some 76) (v := ?_) (a' := ?_) #[true, true, true, true, true, true, true, true, true, true, true, true, true, true, true, true, true, true, true, true, true, true, false, false, false, false, false, false, false, false, false, false, false, false, false, false, false, false, false, false, false, false, false, false, false, false, false, false, false, false, false, false, false, false, false] rfl rfl (by kernel_rfl) (fun _ _ _ h => h) (Or.inl ⟨by rfl, ?_⟩) ?_ ?_
    rotate_left
    · intro w'
      go_simp
      with_reducible rfl
    rotate_left
    · simp only [Act.put, List.setIfInBounds_toArray, List.set_cons_zero, List.set_cons_succ, i64_w, i32_w]
      rfl
    refine pure_ (i := 23) (N := some 78) (v := ?_) (a' := ?_) #[true, true, true, true, true, true, true, true, true, true, true, true, true, true, true, true, true, true, true, true, true, true, false, true, false, false, false, false, false, false, false, false, false, false, false, false, false, false, false, false, false, false, false, false, false, false, false, false, false, false, false, false, false, false, false] rfl rfl (by kernel_rfl) (fun _ _ _ h => h) (Or.inl ⟨by rfl, ?_⟩) ?_ ?_
    rotate_left
    · intro w'
      go_simp
      with_reducible rfl
    rotate_left
    · simp only [Act.put, List.setIfInBounds_toArray, List.set_cons_zero, List.set_cons_succ, i64_w, i32_w]
      rfl
    refine take_ (i := 22) (N := some 77) (v := ?_) (a' := ?_) #[true, true, true, true, true, true, true, true, true, true, true, true, true, true, true, true, true, true, true, true, true, true, true, true, false, false, false, false, false, false, false, false, false, false, false, false, false, false, false, false, false, false, false, false, false, false, false, false, false, false, false, false, false, false, false] rfl rfl (by kernel_rfl) (fun _ _ _ h => h) (Or.inl ⟨by rfl, ?_⟩) hHeld ?_ ?_
    rotate_left
    · rintro w' ⟨s0, s1, s2, s3, s4, s5, s6, s7, s8, s9⟩
      go_simp
      with_reducible rfl
    rotate_left
    · simp only [Act.put, List.setIfInBounds_toArray, List.set_cons_zero, List.set_cons_succ, i64_w, i32_w]
      rfl
    refine take_ (i := 24) (N := some 79) (v := ?_) (a' := ?_) #[true, true, true, true, true, true, true, true, true, true, true, true, true, true, true, true, true, true, true, true, true, true, true, true, true, false, false, false, false, false, false, false, false, false, false, false, false, false, false, false, false, false, false, false, false, false, false, false, false, false, false, false, false, false, false] rfl rfl (by kernel_rfl) (fun _ _ _ h => h) (Or.inl ⟨by rfl, ?_⟩) hHeld ?_ ?_
    rotate_left
    · rintro w' ⟨s0, s1, s2, s3, s4, s5, s6, s7, s8, s9⟩
      go_simp
      with_reducible rfl
    rotate_left
    · simp only [Act.put, List.setIfInBounds_toArray, List.set_cons_zero, List.set_cons_succ, i64_w, i32_w]
      rfl
    refine pure_ (i := 25) (N := some 80) (v := ?_) (a' := ?_) #[true, true, true, true, true, true, true, true, true, true, true, true, true, true, true, true, true, true, true, true, true, true, true, true, true, true, false, false, false, false, false, false, false, false, false, false, false, false, false, false, false, false, false, false, false, false, false, false, false, false, false, false, false, false, false] rfl rfl (by kernel_rfl) (fun _ _ _ h => h) (Or.inl ⟨by rfl, ?_⟩) ?_ ?_
    rotate_left
    · intro w'
      go_simp
      with_reducible rfl
    rotate_left
    · simp only [Act.put, List.setIfInBounds_toArray, List.set_cons_zero, List.set_cons_succ, i64_w, i32_w]
      rfl
    refine pure_ (i := 26) (N := some 81) (v := ?_) (a' := ?_) #[true, true, true, true, true, true, true, true, true, true, true, true, true, true, true, true, true, true, true, true, true, true, true, true, true, true, true, false, false, false, false, false, false, false, false, false, false, false, false, false, false, false, false, false, false, false, false, false, false, false, false, false, false, false, false] rfl rfl (by kernel_rfl) (fun _ _ _ h => h) (Or.inl ⟨by rfl, ?_⟩) ?_ ?_
    rotate_left
    · intro w'
      go_simp
      with_reducible rfl
    rotate_left
    · simp only [Act.put, List.setIfInBounds_toArray, List.set_cons_zero, List.set_cons_succ, i64_w, i32_w]
      rfl
    refine pure_ (i := 27) (N := some 82) (v := ?_) (a' := ?_) #[true, true, true, true, true, true, true, true, true, true, true, true, true, true, true, true, true, true, true, true, true, true, true, true, true, true, true, true, false, false, false, false, false, false, false, false, false, false, false, false, false, false, false, false, false, false, false, false, false, false, false, false, false, false, false] rfl rfl (by kernel_rfl) (fun _ _ _ h => h) (Or.inl ⟨by rfl, ?_⟩) ?_ ?_
    rotate_left
    · intro w'
      go_simp
      with_reducible rfl
    rotate_left
    · simp only [Act.put, List.setIfInBounds_toArray, List.set_cons_zero, List.set_cons_succ, i64_w, i32_w]
      rfl
    refine pure_ (i := 28) (N := some 83) (v := ?_) (a' := ?_) #[true, true, true, true, true, true, true, true, true, true, true, true, true, true, true, true, true, true, true, true, true, true, true, true, true, true, true, true, true, false, false, false, false, false, false, false, false, false, false, false, false, false, false, false, false, false, false, false, false, false, false, false, false, false, false] rfl rfl (by kernel_rfl) (fun _ _ _ h => h) (Or.inl ⟨by rfl, ?_⟩) ?_ ?_
    rotate_left
    · intro w'
      go_simp
      with_reducible rfl
    rotate_left
    · simp only [Act.put, List.setIfInBounds_toArray, List.set_cons_zero, List.set_cons_succ, i64_w, i32_w]
      rfl
    refine pure_ (i := 30) (N := some 85) (v := ?_) (a' := ?_) #[true, true, true, true, true, true, true, true, true, true, true, true, true, true, true, true, true, true, true, true, true, true, true, true, true, true, true, true, true, false, true, false, false, false, false, false, false, false, false, false, false, false, false, false, false, false, false, false, false, false, false, false, false, false, false] rfl rfl (by kernel_rfl) (fun _ _ _ h => h) (Or.inl ⟨by rfl, ?_⟩) ?_ ?_
    rotate_left
    · intro w'
      go_simp
      with_reducible rfl
    rotate_left
    · simp only [Act.put, List.setIfInBounds_toArray, List.set_cons_zero, List.set_cons_succ, i64_w, i32_w]
      rfl
    refine pure_ (i := 32) (N := some 87) (v := ?_) (a' := ?_) #[true, true, true, true, true, true, true, true, true, true, true, true, true, true, true, true, true, true, true, true, true, true, true, true, true, true, true, true, true, false, true, false, true, false, false, false, false, false, false, false, false, false, false, false, false, false, false, false, false, false, false, false, false, false, false] rfl rfl (by kernel_rfl) (fun _ _ _ h => h) (Or.inl ⟨by rfl, ?_⟩) ?_ ?_
    rotate_left
    · intro w'
      go_simp
      with_reducible rfl
    rotate_left
    · simp only [Act.put, List.setIfInBounds_toArray, List.set_cons_zero, List.set_cons_succ, i64_w, i32_w]
      rfl
    refine take_ (i := 29) (N := some 84) (v := ?_) (a' := ?_) #[true, true, true, true, true, true, true, true, true, true, true, true, true, true, true, true, true, true, true, true, true, true, true, true, true, true, true, true, true, true, true, false, true, false, false, false, false, false, false, false, false, false, false, false, false, false, false, false, false, false, false, false, false, false, false] rfl rfl (by kernel_rfl) (fun _ _ _ h => h) (Or.inl ⟨by rfl, ?_⟩) hHeld ?_ ?_
    rotate_left
    · rintro w' ⟨s0, s1, s2, s3, s4, s5, s6, s7, s8, s9⟩
      go_simp
      with_reducible rfl
    rotate_left
    · simp only [Act.put, List.setIfInBounds_toArray, List.set_cons_zero, List.set_cons_succ, i64_w, i32_w]
      rfl
    refine take_ (i := 31) (N := some 86) (v := ?_) (a' := ?_) #[true, true, true, true, true, true, true, true, true, true, true, true, true, true, true, true, true, true, true, true, true, true, true, true, true, true, true, true, true, true, true, true, true, false, false, false, false, false, false, false, false, false, false, false, false, false, false, false, false, false, false, false, false, false, false] rfl rfl (by kernel_rfl) (fun _ _ _ h => h) (Or.inl ⟨by rfl, ?_⟩) hHeld ?_ ?_
    rotate_left
    · rintro w' ⟨s0, s1, s2, s3, s4, s5, s6, s7, s8, s9⟩
      go_simp
      with_reducible rfl
    rotate_left
    · simp only [Act.put, List.setIfInBounds_toArray, List.set_cons_zero, List.set_cons_succ, i64_w, i32_w]
      rfl
    refine pure_ (i := 33) (N := some 88) (v := ?_) (a' := ?_) #[true, true, true, true, true, true, true, true, true, true, true, true, true, true, true, true, true, true, true, true, true, true, true, true, true, true, true, true, true, true, true, true, true, true, false, false, false, false, false, false, false, false, false, false, false, false, false, false, false, false, false, false, false, false, false] rfl rfl (by kernel_rfl) (fun _ _ _ h => h) (Or.inl ⟨by rfl, ?_⟩) ?_ ?_
    rotate_left
    · intro w'
      go_simp
      with_reducible rfl
    rotate_left
    · simp only [Act.put, List.setIfInBounds_toArray, List.set_cons_zero, List.set_cons_succ, i64_w, i32_w]
      rfl
    refine one_ (i := 34) (N := some 89) #[true, true, true, true, true, true, true, true, true, true, true, true, true, true, true, true, true, true, true, true, true, true, true, true, true, true, true, true, true, true, true, true, true, true, true, false, false, false, false, false, false, false, false, false, false, false, false, false, false, false, false, false, false, false, false] rfl rfl (by kernel_rfl) (by decide) (fun K hK => ?_)
    refine goes_ Try.func20 (by kernel_rfl) rfl #[.slice B n1 cB, .slice A4 n1 c4] (by rfl) rfl rfl (by simp only [List.map_toArray, List.map_cons, List.map_nil]; rfl) ?_
    with_reducible refine (hpc.out _ (Below.refl w9.heap.size w9).drew).mono ?_
    rintro e w10 ⟨rfl, hb⟩
    refine ⟨_, rfl, ?_⟩
    have HB10 := Aside0.mk ((Below.refl w9.heap.size w9).drew.trans (Below.mono hb.below (Below.refl w9.heap.size w9).drew.size))
    clear hb
    refine hK.out _ _ ⟨(hqG.out _ HB10.out).1, (hqG.out _ HB10.out).2.1, (hqG.out _ HB10.out).2.2.1, (hqG.out _ HB10.out).2.2.2.1, (hqG.out _ HB10.out).2.2.2.2, (hqS.out _ (below_step HB9.out HB10.out)).1, (hqS.out _ (below_step HB9.out HB10.out)).2.1, (hqS.out _ (below_step HB9.out HB10.out)).2.2.1, (hqS.out _ (below_step HB9.out HB10.out)).2.2.2.1, (hqS.out _ (below_step HB9.out HB10.out)).2.2.2.2⟩ (fun hHeld => ?_)
    clear hK K
    refine norm_ (a' := ?_) ?_ ?_
    rotate_left
    · show Act.put _ (some 89) _ = _
      simp only [Act.put, List.setIfInBounds_toArray, List.set_cons_zero, List.set_cons_succ, i64_w, i32_w]
      rfl
    refine pure_ (i := 35) (N := some 90) (v := ?_) (a' := ?_) #[true, true, true, true, true, true, true, true, true, true, true, true, true, true, true, true, true, true, true, true, true, true, true, true, true, true, true, true, true, true, true, true, true, true, true, true, false, false, false, false, false, false, false, false, false, false, false, false, false, false, false, false, false, false, false] rfl rfl (by kernel_rfl) (fun _ _ _ h => h) (Or.inl ⟨by rfl, ?_⟩) ?_ ?_
    rotate_left
    · intro w'
      go_simp
      with_reducible rfl
    rotate_left
    · simp only [Act.put, List.setIfInBounds_toArray, List.set_cons_zero, List.set_cons_succ, i64_w, i32_w]
      rfl
    refine pure_ (i := 36) (N := some 91) (v := ?_) (a' := ?_) #[true, true, true, true, true, true, true, true, true, true, true, true, true, true, true, true, true, true, true, true, true, true, true, true, true, true, true, true, true, true, true, true, true, true, true, true, true, false, false, false, false, false, false, false, false, false, false, false, false, false, false, false, false, false, false] rfl rfl (by kernel_rfl) (fun _ _ _ h => h) (Or.inl ⟨by rfl, ?_⟩) ?_ ?_
    rotate_left
    · intro w'
      go_simp
      with_reducible rfl
    rotate_left
    · simp only [Act.put, List.setIfInBounds_toArray, List.set_cons_zero, List.set_cons_succ, i64_w, i32_w]
      rfl
    refine pure_ (i := 37) (N := some 92) (v := ?_) (a' := ?_) #[true, true, true, true, true, true, true, true, true, true, true, true, true, true, true, true, true, true, true, true, true, true, true, true, true, true, true, true, true, true, true, true, true, true, true, true, true, true, false, false, false, false, false, false, false, false, false, false, false, false, false, false, false, false, false] rfl rfl (by kernel_rfl) (fun _ _ _ h => h) (Or.inl ⟨by rfl, ?_⟩) ?_ ?_
    rotate_left
    · intro w'
      go_simp
      with_reducible rfl
    rotate_left
    · simp only [Act.put, List.setIfInBounds_toArray, List.set_cons_zero, List.set_cons_succ, i64_w, i32_w]
      rfl
    refine pure_ (i := 38) (N := some 93) (v := ?_) (a' := ?_) #[true, true, true, true, true, true, true, true, true, true, true, true, true, true, true, true, true, true, true, true, true, true, true, true, true, true, true, true, true, true, true, true, true, true, true, true, true, true, true, false, false, false, false, false, false, false, false, false, false, false, false, false, false, false, false] rfl rfl (by kernel_rfl) (fun _ _ _ h => h) (Or.inl ⟨by rfl, ?_⟩) ?_ ?_
    rotate_left
    · intro w'
      go_simp
      with_reducible rfl
    rotate_left
    · simp only [Act.put, List.setIfInBounds_toArray, List.set_cons_zero, List.set_cons_succ, i64_w, i32_w]
      rfl
    refine pure_ (i := 39) (N := some 94) (v := ?_) (a' := ?_) #[true, true, true, true, true, true, true, true, true, true, true, true, true, true, true, true, true, true, true, true, true, true, true, true, true, true, true, true, true, true, true, true, true, true, true, true, true, true, true, true, false, false, false, false, false, false, false, false, false, false, false, false, false, false, false] rfl rfl (by kernel_rfl) (fun _ _ _ h => h) (Or.inl ⟨by rfl, ?_⟩) ?_ ?_
    rotate_left
    · intro w'
      go_simp
      with_reducible rfl
    rotate_left
    · simp only [Act.put, List.setIfInBounds_toArray, List.set_cons_zero, List.set_cons_succ, i64_w, i32_w]
      rfl
    refine pure_ (i := 42) (N := some 97) (v := ?_) (a' := ?_) #[true, true, true, true, true, true, true, true, true, true, true, true, true, true, true, true, true, true, true, true, true, true, true, true, true, true, true, true, true, true, true, true, true, true, true, true, true, true, true, true, false, false, true, false, false, false, false, false, false, false, false, false, false, false, false] rfl rfl (by kernel_rfl) (fun _ _ _ h => h) (Or.inl ⟨by rfl, ?_⟩) ?_ ?_
    rotate_left
    · intro w'
      go_simp
      with_reducible rfl
    rotate_left
    · simp only [Act.put, List.setIfInBounds_toArray, List.set_cons_zero, List.set_cons_succ, i64_w, i32_w]
      rfl
    refine take_ (i := 40) (N := some 95) (v := ?_) (a' := ?_) #[true, true, true, true, true, true, true, true, true, true, true, true, true, true, true, true, true, true, true, true, true, true, true, true, true, true, true, true, true, true, true, true, true, true, true, true, true, true, true, true, true, false, true, false, false, false, false, false, false, false, false, false, false, false, false] rfl rfl (by kernel_rfl) (fun _ _ _ h => h) (Or.inl ⟨by rfl, ?_⟩) hHeld ?_ ?_
    rotate_left
    · rintro w' ⟨s0, s1, s2, s3, s4, s5, s6, s7, s8, s9⟩
      go_simp
      with_reducible rfl
    rotate_left
    · simp only [Act.put, List.setIfInBounds_toArray, List.set_cons_zero, List.set_cons_succ, i64_w, i32_w]
      rfl
    refine pure_ (i := 41) (N := some 96) (v := ?_) (a' := ?_) #[true, true, true, true, true, true, true, true, true, true, true, true, true, true, true, true, true, true, true, true, true, true, true, true, true, true, true, true, true, true, true, true, true, true, true, true, true, true, true, true, true, true, true, false, false, false, false, false, false, false, false, false, false, false, false] rfl rfl (by kernel_rfl) (fun _ _ _ h => h) (Or.inl ⟨by rfl, ?_⟩) ?_ ?_
    rotate_left
    · intro w'
      go_simp
      with_reducible rfl
    rotate_left
    · simp only [Act.put, List.setIfInBounds_toArray, List.set_cons_zero, List.set_cons_succ, i64_w, i32_w]
      rfl
    refine pure_ (i := 43) (N := some 98) (v := ?_) (a' := ?_) #[true, true, true, true, true, true, true, true, true, true, true, true, true, true, true, true, true, true, true, true, true, true, true, true, true, true, true, true, true, true, true, true, true, true, true, true, true, true, true, true, true, true, true, true, false, false, false, false, false, false, false, false, false, false, false] rfl rfl (by kernel_rfl) (fun _ _ _ h => h) (Or.inl ⟨by rfl, ?_⟩) ?_ ?_
    rotate_left
    · intro w'
      go_simp
      with_reducible rfl
    rotate_left
    · simp only [Act.put, List.setIfInBounds_toArray, List.set_cons_zero, List.set_cons_succ, i64_w, i32_w]
      rfl
    refine pure_ (i := 44) (N := some 99) (v := ?_) (a' := ?_) #[true, true, true, true, true, true, true, true, true, true, true, true, true, true, true, true, true, true, true, true, true, true, true, true, true, true, true, true, true, true, true, true, true, true, true, true, true, true, true, true, true, true, true, true, true, false, false, false, false, false, false, false, false, false, false] rfl rfl (by kernel_rfl) (fun _ _ _ h => h) (Or.inl ⟨by rfl, ?_⟩) ?_ ?_
    rotate_left
    · intro w'
      go_simp
      with_reducible rfl
    rotate_left
    · simp only [Act.put, List.setIfInBounds_toArray, List.set_cons_zero, List.set_cons_succ, i64_w, i32_w]
      rfl
    refine pure_ (i := 45) (N := some 100) (v := ?_) (a' := ?_) #[true, true, true, true, true, true, true, true, true, true, true, true, true, true, true, true, true, true, true, true, true, true, true, true, true, true, true, true, true, true, true, true, true, true, true, true, true, true, true, true, true, true, true, true, true, true, false, false, false, false, false, false, false, false, false] rfl rfl (by kernel_rfl) (fun _ _ _ h => h) (Or.inl ⟨by rfl, ?_⟩) ?_ ?_
    rotate_left
    · intro w'
      go_simp
      with_reducible rfl
    rotate_left
    · simp only [Act.put, List.setIfInBounds_toArray, List.set_cons_zero, List.set_cons_succ, i64_w, i32_w]
      rfl
    refine pure_ (i := 46) (N := some 101) (v := ?_) (a' := ?_) #[true, true, true, true, true, true, true, true, true, true, true, true, true, true, true, true, true, true, true, true, true, true, true, true, true, true, true, true, true, true, true, true, true, true, true, true, true, true, true, true, true, true, true, true, true, true, true, false, false, false, false, false, false, false, false] rfl rfl (by kernel_rfl) (fun _ _ _ h => h) (Or.inl ⟨by rfl, ?_⟩) ?_ ?_
    rotate_left
    · intro w'
      go_simp
      with_reducible rfl
    rotate_left
    · simp only [Act.put, List.setIfInBounds_toArray, List.set_cons_zero, List.set_cons_succ, i64_w, i32_w]
      rfl
    refine pure_ (i := 47) (N := some 102) (v := ?_) (a' := ?_) #[true, true, true, true, true, true, true, true, true, true, true, true, true, true, true, true, true, true, true, true, true, true, true, true, true, true, true, true, true, true, true, true, true, true, true, true, true, true, true, true, true, true, true, true, true, true, true, true, false, false, false, false, false, false, false] rfl rfl (by kernel_rfl) (fun _ _ _ h => h) (Or.inl ⟨by rfl, ?_⟩) ?_ ?_
    rotate_left
    · intro w'
      go_simp
      with_reducible rfl
    rotate_left
    · simp only [Act.put, List.setIfInBounds_toArray, List.set_cons_zero, List.set_cons_succ, i64_w, i32_w]
      rfl
    refine one_ (i := 48) (N := some 103) #[true, true, true, true, true, true, true, true, true, true, true, true, true, true, true, true, true, true, true, true, true, true, true, true, true, true, true, true, true, true, true, true, true, true, true, true, true, true, true, true, true, true, true, true, true, true, true, true, true, false, false, false, false, false, false] rfl rfl (by kernel_rfl) (by decide) (fun K hK => ?_)
    refine goes_ Try.func19 (by kernel_rfl) rfl #[.slice Al lp.length cl] (by rfl) rfl rfl (by simp only [List.map_toArray, List.map_cons, List.map_nil]; rfl) ?_
    with_reducible refine (hrc.out _ HB10.out).mono ?_
    rintro e w11 ⟨rfl, hb⟩
    refine ⟨_, rfl, ?_⟩
    have HB11 := Aside0.mk (below_step HB10.out hb)
    clear hb
    refine hK.out _ _ ⟨(hqG.out _ HB11.out).1, (hqG.out _ HB11.out).2.1, (hqG.out _ HB11.out).2.2.1, (hqG.out _ HB11.out).2.2.2.1, (hqG.out _ HB11.out).2.2.2.2, (hqS.out _ (below_step HB9.out HB11.out)).1, (hqS.out _ (below_step HB9.out HB11.out)).2.1, (hqS.out _ (below_step HB9.out HB11.out)).2.2.1, (hqS.out _ (below_step HB9.out HB11.out)).2.2.2.1, (hqS.out _ (below_step HB9.out HB11.out)).2.2.2.2⟩ (fun hHeld => ?_)
    clear hK K
    refine norm_ (a' := ?_) ?_ ?_
    rotate_left
    · show Act.put _ (some 103) _ = _
      simp only [Act.put, List.setIfInBounds_toArray, List.set_cons_zero, List.set_cons_succ, i64_w, i32_w]
      rfl
    refine pure_ (i := 49) (N := some 104) (v := ?_) (a' := ?_) #[true, true, true, true, true, true, true, true, true, true, true, true, true, true, true, true, true, true, true, true, true, true, true, true, true, true, true, true, true, true, true, true, true, true, true, true, true, true, true, true, true, true, true, true, true, true, true, true, true, true, false, false, false, false, false] rfl rfl (by kernel_rfl) (fun _ _ _ h => h) (Or.inl ⟨by rfl, ?_⟩) ?_ ?_
    rotate_left
    · intro w'
      go_simp
      with_reducible rfl
    rotate_left
    · simp only [Act.put, List.setIfInBounds_toArray, List.set_cons_zero, List.set_cons_succ, i64_w, i32_w]
      rfl
    refine pure_ (i := 50) (N := some 105) (v := ?_) (a' := ?_) #[true, true, true, true, true, true, true, true, true, true, true, true, true, true, true, true, true, true, true, true, true, true, true, true, true, true, true, true, true, true, true, true, true, true, true, true, true, true, true, true, true, true, true, true, true, true, true, true, true, true, true, false, false, false, false] rfl rfl (by kernel_rfl) (fun _ _ _ h => h) (Or.inl ⟨by rfl, ?_⟩) ?_ ?_
    rotate_left
    · intro w'
      go_simp
      with_reducible rfl
    rotate_left
    · simp only [Act.put, List.setIfInBounds_toArray, List.set_cons_zero, List.set_cons_succ, i64_w, i32_w]
      rfl
    refine pure_ (i := 51) (N := some 106) (v := ?_) (a' := ?_) #[true, true, true, true, true, true, true, true, true, true, true, true, true, true, true, true, true, true, true, true, true, true, true, true, true, true, true, true, true, true, true, true, true, true, true, true, true, true, true, true, true, true, true, true, true, true, true, true, true, true, true, true, false, false, false] rfl rfl (by kernel_rfl) (fun _ _ _ h => h) (Or.inl ⟨by rfl, ?_⟩) ?_ ?_
    rotate_left
    · intro w'
      go_simp
      with_reducible rfl
    rotate_left
    · simp only [Act.put, List.setIfInBounds_toArray, List.set_cons_zero, List.set_cons_succ, i64_w, i32_w]
      rfl
    refine one_ (i := 52) (N := some 107) #[true, true, true, true, true, true, true, true, true, true, true, true, true, true, true, true, true, true, true, true, true, true, true, true, true, true, true, true, true, true, true, true, true, true, true, true, true, true, true, true, true, true, true, true, true, true, true, true, true, true, true, true, true, false, false] rfl rfl (by kernel_rfl) (by decide) (fun K hK => ?_)
    refine goes_ Try.func13 (by kernel_rfl) rfl #[] (by rfl) rfl rfl (by simp only [List.map_toArray, List.map_cons, List.map_nil]) ?_
    with_reducible refine (alive_calls _).mono ?_
    rintro e w12 ⟨rfl, hb⟩
    refine ⟨_, rfl, ?_⟩
    have HB12 := Aside0.mk (below_step HB11.out hb)
    clear hb
    refine hK.out _ _ ⟨(hqG.out _ HB12.out).1, (hqG.out _ HB12.out).2.1, (hqG.out _ HB12.out).2.2.1, (hqG.out _ HB12.out).2.2.2.1, (hqG.out _ HB12.out).2.2.2.2, (hqS.out _ (below_step HB9.out HB12.out)).1, (hqS.out _ (below_step HB9.out HB12.out)).2.1, (hqS.out _ (below_step HB9.out HB12.out)).2.2.1, (hqS.out _ (below_step HB9.out HB12.out)).2.2.2.1, (hqS.out _ (below_step HB9.out HB12.out)).2.2.2.2⟩ (fun hHeld => ?_)
    clear hK K
    refine norm_ (a' := ?_) ?_ ?_
    rotate_left
    · show Act.put _ (some 107) _ = _
      simp only [Act.put, List.setIfInBounds_toArray, List.set_cons_zero, List.set_cons_succ, i64_w, i32_w]
      rfl
    refine pure_ (i := 53) (N := some 108) (v := ?_) (a' := ?_) #[true, true, true, true, true, true, true, true, true, true, true, true, true, true, true, true, true, true, true, true, true, true, true, true, true, true, true, true, true, true, true, true, true, true, true, true, true, true, true, true, true, true, true, true, true, true, true, true, true, true, true, true, true, true, false] rfl rfl (by kernel_rfl) (fun _ _ _ h => h) (Or.inl ⟨by rfl, ?_⟩) ?_ ?_
    rotate_left
    · intro w'
      go_simp
      with_reducible rfl
    rotate_left
    · simp only [Act.put, List.setIfInBounds_toArray, List.set_cons_zero, List.set_cons_succ, i64_w, i32_w]
      rfl
    refine pure_ (i := 54) (N := some 109) (v := ?_) (a' := ?_) #[true, true, true, true, true, true, true, true, true, true, true, true, true, true, true, true, true, true, true, true, true, true, true, true, true, true, true, true, true, true, true, true, true, true, true, true, true, true, true, true, true, true, true, true, true, true, true, true, true, true, true, true, true, true, true] rfl rfl (by kernel_rfl) (fun _ _ _ h => h) (Or.inl ⟨by rfl, ?_⟩) ?_ ?_
    rotate_left
    · intro w'
      go_simp
      with_reducible rfl
    rotate_left
    · simp only [Act.put, List.setIfInBounds_toArray, List.set_cons_zero, List.set_cons_succ, i64_w, i32_w]
      rfl
    refine done_ (by kernel_rfl) ?_
    rw [hwd]
    replace hwd := Lib.hid hwd
    have hBz := Aside0.mk (below_step HB9.out HB12.out)
    have hCz := Aside0.mk (Kd.C_below hC4.out hBz.out)
    have hClz := Aside0.mk (Kd.C_below hCl.out (below_step hB69.out HB12.out))
    have hBend := Aside0.mk (below_step hB4 hBz.out)
    clear hHeld HB10 HB11 HB12 hpc hrc hqG hcut z4 hB69 HB9 hB4
    go_wp2
    go_loopw [112] (fun vi wr => ∃ j : Nat, j ≤ l.length ∧ vi = .int .i64 (j : Int) ∧ Below w12.heap.size w12 wr) (fun vi _ => l.length - (intOf vi).toNat)
    case atStart => exact ⟨0, by omega, rfl, Below.refl _ _⟩
    case round =>
      obtain ⟨j, hj, rfl, hBr⟩ := hrel
      by_cases hlt : (j : Int) < (l.length : Int)
      · obtain ⟨j', hj', hf', hne'⟩ := hall j (by omega)
        obtain ⟨ad0, E4, e4, eA0, p0, p1, p2, p3, p4, he4, hE4⟩ := at_T29 (Kd.C_below hCz.out hBr) (j : Int) (by omega) (by omega)
        subst eA0
        rw [Int.toNat_natCast] at p0 p1 p2 p3 p4
        have hy22 : (rd_T29 l (j : Int)).f3.length ≤ 22 := hl22.out _ (rd29_mem l j (by omega))
        generalize hyj : rd_T29 l (j : Int) = y at p0 p1 p2 p3 p4 he4 hE4 hf' hne' hy22
        have hrl := rd_set lp i { s with f3 := s.f3.drop 1 } j' hj'
        rw [hll.out] at hrl
        have hlf : (rd_T29 ll (j' : Int)).f0 = y.f0 := by
          rw [hrl, ← hf']
          split
          · subst_vars; rw [hri.out]
          · rfl
        have hAt := at_here ll y.f0 (by rw [hllen.out]; omega) hRl j' (by rw [hllen.out]; exact hj') hlf
        have hin' : (j' : Int) < lp.length := by omega
        have hj8 : j' < 100 := by omega
        replace hyj := Lib.hid hyj
        obtain ⟨w13, hw13⟩ : ∃ w13, wr.alloc (.cells #[.int .u64 0, .string ⟨#[]⟩, .int .u64 0, .string ⟨#[]⟩, .slice none 0 0] 29 (0, 0)) = w13 := ⟨_, rfl⟩
        have hb13 : Below wr.heap.size wr w13 := by rw [← hw13]; exact below_alloc (Below.refl _ _) _
        have hK13 : w13.heap[wr.heap.size]? = some (.cells #[.int .u64 0, .string ⟨#[]⟩, .int .u64 0, .string ⟨#[]⟩, .slice none 0 0] 29 (0, 0)) := by rw [← hw13]; exact heap_alloc_new _ _
        replace hlf := Lib.hid hlf
        replace hf' := Lib.hid hf'
        replace hne' := Lib.hid hne'
        replace hrl := Lib.hid hrl
        go_wp2_with ((with_reducible refine gate_store (t := 29) (p := 14) rfl ?_); go_loud (refine wpList_storeBox rfl rfl 29 (.tmp 14) (.tmp 115) rfl (sv y E4 e4) [.int .u64 y.f0, .string y.f1, .int .u64 y.f2.f0, .string y.f2.f1, .slice E4 y.f3.length e4] rfl rfl rfl (by kernel_rfl) (by simp [Value.oneCell']) hK13 rfl ?_); intro w14 hK14 hg14 hs14; have hb14 := Aside0.mk (pw_below_grown hb13 _ hb13.size hg14 (fun k hk => by cases hk; exact Nat.le_refl _)); clear hw13 hb13 hK13 hg14 p0 p1 p2 p3 p4; have y0 : w14.cell? ⟨wr.heap.size, 0, none⟩ = some (.int .u64 y.f0) := (blk_cell hK14 0).trans rfl)
        have hac := demurralref15_At.calls 2000 Al cl ll y.f0 _ w14 (by rw [hllen.out]; exact Kd.C_below hClz.out (below_step hBr hb14.out)) (by rw [hllen.out]; exact hcl) hAt
        rw [hllen.out] at hac
        replace hac := Aside0.mk hac
        clear hAt
        go_wp2_with fail
        refine hac.out.mono ?_; rintro e_ w15 ⟨rfl, hb15⟩
        clear hac y0
        have hB15 := Aside0.mk (below_step hBr (below_step hb14.out hb15))
        have HB15 := Aside0.mk (below_step hBz.out hB15.out)
        have hK15 := (hb15.block _ (blk_lt hK14)).trans hK14
        have hqY : Hid (∀ W, Below w15.heap.size w15 W → W.cell? ⟨wr.heap.size, 0, none⟩ = some (.int .u64 y.f0) ∧ W.cell? ⟨wr.heap.size, 1, none⟩ = some (.string y.f1) ∧ W.cell? ⟨wr.heap.size, 2, none⟩ = some (.int .u64 y.f2.f0) ∧ W.cell? ⟨wr.heap.size, 3, none⟩ = some (.string y.f2.f1) ∧ W.cell? ⟨wr.heap.size, 4, none⟩ = some (.slice E4 y.f3.length e4)) := Lib.hid fun W hW => box5 ((hW.block _ (blk_lt hK15)).trans hK15)
        clear hK14 hK15
        have hnl : decide ((j' : Int) < 0) = false := decide_eq_false (by omega)
        by_cases heq : y.f0 = s.f0
        · have hbe : (y.f0 != s.f0) = false := by rw [heq]; exact bne_self_eq_false _
          have hbe2 : (y.f0 == s.f0) = true := beq_iff_eq.2 heq
          replace heq := Lib.hid heq
          go_wp2
          refine start_ (n := 18) (S := fun w' => w'.cell? ⟨wr.heap.size, 0, none⟩ = some (.int .u64 y.f0) ∧ w'.cell? ⟨wr.heap.size, 1, none⟩ = some (.string y.f1) ∧ w'.cell? ⟨wr.heap.size, 2, none⟩ = some (.int .u64 y.f2.f0) ∧ w'.cell? ⟨wr.heap.size, 3, none⟩ = some (.string y.f2.f1) ∧ w'.cell? ⟨wr.heap.size, 4, none⟩ = some (.slice E4 y.f3.length e4) ∧ w'.cell? ⟨w.heap.size, 0, none⟩ = some (.int .u64 s.f0)) (ds := []) #[false, false, false, false, false, false, false, false, false, false, false, false, false, false, false, false, false, false] (by kernel_rfl) rfl rfl ⟨(hqY.out _ (Below.refl w15.heap.size w15).drew).1, (hqY.out _ (Below.refl w15.heap.size w15).drew).2.1, (hqY.out _ (Below.refl w15.heap.size w15).drew).2.2.1, (hqY.out _ (Below.refl w15.heap.size w15).drew).2.2.2.1, (hqY.out _ (Below.refl w15.heap.size w15).drew).2.2.2.2, (hqS.out _ (below_step HB15.out (Below.refl w15.heap.size w15).drew)).1⟩ (fun hHeld => ?_)
          refine pure_ (i := 0) (N := some 120) (v := ?_) (a' := ?_) #[true, false, false, false, false, false, false, false, false, false, false, false, false, false, false, false, false, false] rfl rfl (by kernel_rfl) (fun _ _ _ h => h) (Or.inl ⟨by rfl, ?_⟩) ?_ ?_
          rotate_left
          · intro w'
            go_simp
            with_reducible rfl
          rotate_left
          · simp only [Act.put, List.setIfInBounds_toArray, List.set_cons_zero, List.set_cons_succ, i64_w, i32_w]
            rfl
          refine pure_ (i := 1) (N := some 121) (v := ?_) (a' := ?_) #[true, true, false, false, false, false, false, false, false, false, false, false, false, false, false, false, false, false] rfl rfl (by kernel_rfl) (fun _ _ _ h => h) (Or.inl ⟨by rfl, ?_⟩) ?_ ?_
          rotate_left
          · intro w'
            go_simp
            with_reducible rfl
          rotate_left
          · simp only [Act.put, List.setIfInBounds_toArray, List.set_cons_zero, List.set_cons_succ, i64_w, i32_w]
            rfl
          refine pure_ (i := 2) (N := some 122) (v := ?_) (a' := ?_) #[true, true, true, false, false, false, false, false, false, false, false, false, false, false, false, false, false, false] rfl rfl (by kernel_rfl) (fun _ _ _ h => h) (Or.inl ⟨by rfl, ?_⟩) ?_ ?_
          rotate_left
          · intro w'
            go_simp
            with_reducible rfl
          rotate_left
          · simp only [Act.put, List.setIfInBounds_toArray, List.set_cons_zero, List.set_cons_succ, i64_w, i32_w]
            rfl
          refine pure_ (i := 3) (N := some 123) (v := ?_) (a' := ?_) #[true, true, true, true, false, false, false, false, false, false, false, false, false, false, false, false, false, false] rfl rfl (by kernel_rfl) (fun _ _ _ h => h) (Or.inl ⟨by rfl, ?_⟩) ?_ ?_
          rotate_left
          · intro w'
            go_simp
            with_reducible rfl
          rotate_left
          · simp only [Act.put, List.setIfInBounds_toArray, List.set_cons_zero, List.set_cons_succ, i64_w, i32_w]
            rfl
          refine pure_ (i := 5) (N := some 125) (v := ?_) (a' := ?_) #[true, true, true, true, false, true, false, false, false, false, false, false, false, false, false, false, false, false] rfl rfl (by kernel_rfl) (fun _ _ _ h => h) (Or.inl ⟨by rfl, ?_⟩) ?_ ?_
          rotate_left
          · intro w'
            go_simp
            with_reducible rfl
          rotate_left
          · simp only [Act.put, List.setIfInBounds_toArray, List.set_cons_zero, List.set_cons_succ, i64_w, i32_w]
            rfl
          refine take_ (i := 4) (N := some 124) (v := ?_) (a' := ?_) #[true, true, true, true, true, true, false, false, false, false, false, false, false, false, false, false, false, false] rfl rfl (by kernel_rfl) (fun _ _ _ h => h) (Or.inl ⟨by rfl, ?_⟩) hHeld ?_ ?_
          rotate_left
          · rintro w' ⟨s0, s1, s2, s3, s4, s5⟩
            go_simp
            with_reducible rfl
          rotate_left
          · simp only [Act.put, List.setIfInBounds_toArray, List.set_cons_zero, List.set_cons_succ, i64_w, i32_w]
            rfl
          refine take_ (i := 6) (N := some 126) (v := ?_) (a' := ?_) #[true, true, true, true, true, true, true, false, false, false, false, false, false, false, false, false, false, false] rfl rfl (by kernel_rfl) (fun _ _ _ h => h) (Or.inl ⟨by rfl, ?_⟩) hHeld ?_ ?_
          rotate_left
          · rintro w' ⟨s0, s1, s2, s3, s4, s5⟩
            go_simp
            with_reducible rfl
          rotate_left
          · simp only [Act.put, List.setIfInBounds_toArray, List.set_cons_zero, List.set_cons_succ, i64_w, i32_w]
            rfl
          refine pure_ (i := 7) (N := some 127) (v := ?_) (a' := ?_) #[true, true, true, true, true, true, true, true, false, false, false, false, false, false, false, false, false, false] rfl rfl (by kernel_rfl) (fun _ _ _ h => h) (Or.inl ⟨by rfl, ?_⟩) ?_ ?_
          rotate_left
          · intro w'
            go_simp
            with_reducible rfl
          rotate_left
          · simp only [Act.put, List.setIfInBounds_toArray, List.set_cons_zero, List.set_cons_succ, i64_w, i32_w]
            rfl
          refine pure_ (i := 8) (N := some 128) (v := ?_) (a' := ?_) #[true, true, true, true, true, true, true, true, true, false, false, false, false, false, false, false, false, false] rfl rfl (by kernel_rfl) (fun _ _ _ h => h) (Or.inl ⟨by rfl, ?_⟩) ?_ ?_
          rotate_left
          · intro w'
            go_simp
            with_reducible rfl
          rotate_left
          · simp only [Act.put, List.setIfInBounds_toArray, List.set_cons_zero, List.set_cons_succ, i64_w, i32_w]
            rfl
          refine pure_ (i := 9) (N := some 129) (v := undef) (a' := ?_) #[true, true, true, true, true, true, true, true, true, true, false, false, false, false, false, false, false, false] rfl rfl (by kernel_rfl) (fun _ _ _ h => h) (Or.inr ⟨by rfl, rfl⟩) ?_ ?_
          rotate_left
          · simp only [Act.put, List.setIfInBounds_toArray, List.set_cons_zero, List.set_cons_succ, i64_w, i32_w]
            rfl
          refine pure_ (i := 10) (N := some 130) (v := undef) (a' := ?_) #[true, true, true, true, true, true, true, true, true, true, true, false, false, false, false, false, false, false] rfl rfl (by kernel_rfl) (fun _ _ _ h => h) (Or.inr ⟨by rfl, rfl⟩) ?_ ?_
          rotate_left
          · simp only [Act.put, List.setIfInBounds_toArray, List.set_cons_zero, List.set_cons_succ, i64_w, i32_w]
            rfl
          refine pure_ (i := 11) (N := some 131) (v := undef) (a' := ?_) #[true, true, true, true, true, true, true, true, true, true, true, true, false, false, false, false, false, false] rfl rfl (by kernel_rfl) (fun _ _ _ h => h) (Or.inr ⟨by rfl, rfl⟩) ?_ ?_
          rotate_left
          · simp only [Act.put, List.setIfInBounds_toArray, List.set_cons_zero, List.set_cons_succ, i64_w, i32_w]
            rfl
          refine pure_ (i := 12) (N := some 132) (v := undef) (a' := ?_) #[true, true, true, true, true, true, true, true, true, true, true, true, true, false, false, false, false, false] rfl rfl (by kernel_rfl) (fun _ _ _ h => h) (Or.inr ⟨by rfl, rfl⟩) ?_ ?_
          rotate_left
          · simp only [Act.put, List.setIfInBounds_toArray, List.set_cons_zero, List.set_cons_succ, i64_w, i32_w]
            rfl
          refine pure_ (i := 13) (N := some 133) (v := undef) (a' := ?_) #[true, true, true, true, true, true, true, true, true, true, true, true, true, true, false, false, false, false] rfl rfl (by kernel_rfl) (fun _ _ _ h => h) (Or.inr ⟨by rfl, rfl⟩) ?_ ?_
          rotate_left
          · simp only [Act.put, List.setIfInBounds_toArray, List.set_cons_zero, List.set_cons_succ, i64_w, i32_w]
            rfl
          refine pure_ (i := 14) (N := some 134) (v := undef) (a' := ?_) #[true, true, true, true, true, true, true, true, true, true, true, true, true, true, true, false, false, false] rfl rfl (by kernel_rfl) (fun _ _ _ h => h) (Or.inr ⟨by rfl, rfl⟩) ?_ ?_
          rotate_left
          · simp only [Act.put, List.setIfInBounds_toArray, List.set_cons_zero, List.set_cons_succ, i64_w, i32_w]
            rfl
          refine pure_ (i := 15) (N := some 135) (v := undef) (a' := ?_) #[true, true, true, true, true, true, true, true, true, true, true, true, true, true, true, true, false, false] rfl rfl (by kernel_rfl) (fun _ _ _ h => h) (Or.inr ⟨by rfl, rfl⟩) ?_ ?_
          rotate_left
          · simp only [Act.put, List.setIfInBounds_toArray, List.set_cons_zero, List.set_cons_succ, i64_w, i32_w]
            rfl
          refine pure_ (i := 16) (N := some 136) (v := ?_) (a' := ?_) #[true, true, true, true, true, true, true, true, true, true, true, true, true, true, true, true, true, false] rfl rfl (by kernel_rfl) (fun _ _ _ h => h) (Or.inl ⟨by rfl, ?_⟩) ?_ ?_
          rotate_left
          · intro w'
            go_simp
            with_reducible rfl
          rotate_left
          · simp only [Act.put, List.setIfInBounds_toArray, List.set_cons_zero, List.set_cons_succ, i64_w, i32_w]
            rfl
          refine pure_ (i := 17) (N := some 137) (v := ?_) (a' := ?_) #[true, true, true, true, true, true, true, true, true, true, true, true, true, true, true, true, true, true] rfl rfl (by kernel_rfl) (fun _ _ _ h => h) (Or.inl ⟨by rfl, ?_⟩) ?_ ?_
          rotate_left
          · intro w'
            go_simp
            with_reducible rfl
          rotate_left
          · simp only [Act.put, List.setIfInBounds_toArray, List.set_cons_zero, List.set_cons_succ, i64_w, i32_w]
            rfl
          refine done_ (by kernel_rfl) ?_
          have hBe := Aside0.mk (below_drew hB15.out)
          clear hHeld hBr
          go_wp2
          go_roundw
          case rel => exact ⟨j + 1, by omega, by go_num, hBe.out⟩
          case measure => simp [intOf]; omega
        · have hbe : (y.f0 != s.f0) = true := bne_iff_ne.2 heq
          have hbe2 : (y.f0 == s.f0) = false := beq_eq_false_iff_ne.2 heq
          obtain ⟨hpe, hji⟩ := hne'.out heq
          have hly : rd_T29 ll (j' : Int) = y := by rw [hrl.out, if_neg (fun e => hji e.symm), hpe]
          obtain ⟨ad, G4, o4, eA', q0, q1, q2, q3, q4, ho4, hG4⟩ := at_T29 (Kd.C_below hClz.out hB15.out) (j' : Int) (by omega) (by omega)
          subst eA'
          rw [Int.toNat_natCast, hly] at q0 q1 q2 q3 q4
          rw [hly] at ho4 hG4
          have hadl : (ad.add (j' * 5)).block < w15.heap.size := block_lt_of_cell q0
          have hqJ : Hid (∀ W, Below w15.heap.size w15 W → W.cell? (ad.add (j' * 5)) = some (.int .u64 y.f0) ∧ W.cell? ⟨(ad.add (j' * 5)).block, (ad.add (j' * 5)).off + 1, none⟩ = some (.string y.f1) ∧ W.cell? ⟨(ad.add (j' * 5)).block, (ad.add (j' * 5)).off + 2, none⟩ = some (.int .u64 y.f2.f0) ∧ W.cell? ⟨(ad.add (j' * 5)).block, (ad.add (j' * 5)).off + 3, none⟩ = some (.string y.f2.f1) ∧ W.cell? ⟨(ad.add (j' * 5)).block, (ad.add (j' * 5)).off + 4, none⟩ = some (.slice G4 y.f3.length o4)) := Lib.hid fun W hBW =>
            ⟨(Below.cell (p := (ad.add (j' * 5))) hBW hadl).trans q0, (Below.cell (p := ⟨(ad.add (j' * 5)).block, (ad.add (j' * 5)).off + 1, none⟩) hBW hadl).trans q1, (Below.cell (p := ⟨(ad.add (j' * 5)).block, (ad.add (j' * 5)).off + 2, none⟩) hBW hadl).trans q2, (Below.cell (p := ⟨(ad.add (j' * 5)).block, (ad.add (j' * 5)).off + 3, none⟩) hBW hadl).trans q3, (Below.cell (p := ⟨(ad.add (j' * 5)).block, (ad.add (j' * 5)).off + 4, none⟩) hBW hadl).trans q4⟩
          have hone : Hid (∀ W, Below w15.heap.size w15 W → Calls Try.prog 14 #[.agg #[.int .u64 y.f0, .string y.f1, .int .u64 y.f2.f0, .string y.f2.f1, .slice G4 y.f3.length o4], .agg #[.int .u64 y.f0, .string y.f1, .int .u64 y.f2.f0, .string y.f2.f1, .slice E4 y.f3.length e4]] W fun e w' => e = .returned (.bool true) ∧ Below W.heap.size W w') := Lib.hid fun W hW =>
            demurralref15_One.calls 2000 y.f0 y.f1 y.f2.f0 y.f2.f1 G4 o4 y.f3 y.f0 y.f1 y.f2.f0 y.f2.f1 E4 e4 y.f3 true W (Kd.C_below hG4 hW) ho4 (Kd.C_below hE4 (below_step hb14.out (below_step hb15 hW))) he4 (by rw [← oneB_refl y]; exact one_f y y (by omega) 2000 (by omega))
          replace heq := Lib.hid heq
          replace hpe := Lib.hid hpe
          replace hly := Lib.hid hly
          replace hji := Lib.hid hji
          clear q0 q1 q2 q3 q4
          go_wp2
          refine start_ (n := 18) (S := fun w' => w'.cell? ⟨wr.heap.size, 0, none⟩ = some (.int .u64 y.f0) ∧ w'.cell? ⟨wr.heap.size, 1, none⟩ = some (.string y.f1) ∧ w'.cell? ⟨wr.heap.size, 2, none⟩ = some (.int .u64 y.f2.f0) ∧ w'.cell? ⟨wr.heap.size, 3, none⟩ = some (.string y.f2.f1) ∧ w'.cell? ⟨wr.heap.size, 4, none⟩ = some (.slice E4 y.f3.length e4) ∧ w'.cell? ⟨w.heap.size, 0, none⟩ = some (.int .u64 s.f0) ∧ w'.cell? (ad.add (j' * 5)) = some (.int .u64 y.f0) ∧ w'.cell? ⟨(ad.add (j' * 5)).block, (ad.add (j' * 5)).off + 1, none⟩ = some (.string y.f1) ∧ w'.cell? ⟨(ad.add (j' * 5)).block, (ad.add (j' * 5)).off + 2, none⟩ = some (.int .u64 y.f2.f0) ∧ w'.cell? ⟨(ad.add (j' * 5)).block, (ad.add (j' * 5)).off + 3, none⟩ = some (.string y.f2.f1) ∧ w'.cell? ⟨(ad.add (j' * 5)).block, (ad.add (j' * 5)).off + 4, none⟩ = some (.slice G4 y.f3.length o4)) (ds := []) #[false, false, false, false, false, false, false, false, false, false, false, false, false, false, false, false, false, false] (by kernel_rfl) rfl rfl ⟨(hqY.out _ (Below.refl w15.heap.size w15).drew).1, (hqY.out _ (Below.refl w15.heap.size w15).drew).2.1, (hqY.out _ (Below.refl w15.heap.size w15).drew).2.2.1, (hqY.out _ (Below.refl w15.heap.size w15).drew).2.2.2.1, (hqY.out _ (Below.refl w15.heap.size w15).drew).2.2.2.2, (hqS.out _ (below_step HB15.out (Below.refl w15.heap.size w15).drew)).1, (hqJ.out _ (Below.refl w15.heap.size w15).drew).1, (hqJ.out _ (Below.refl w15.heap.size w15).drew).2.1, (hqJ.out _ (Below.refl w15.heap.size w15).drew).2.2.1, (hqJ.out _ (Below.refl w15.heap.size w15).drew).2.2.2.1, (hqJ.out _ (Below.refl w15.heap.size w15).drew).2.2.2.2⟩ (fun hHeld => ?_)
          refine pure_ (i := 0) (N := some 120) (v := ?_) (a' := ?_) #[true, false, false, false, false, false, false, false, false, false, false, false, false, false, false, false, false, false] rfl rfl (by kernel_rfl) (fun _ _ _ h => h) (Or.inl ⟨by rfl, ?_⟩) ?_ ?_
          rotate_left
          · intro w'
            go_simp
            with_reducible rfl
          rotate_left
          · simp only [Act.put, List.setIfInBounds_toArray, List.set_cons_zero, List.set_cons_succ, i64_w, i32_w]
            rfl
          refine pure_ (i := 1) (N := some 121) (v := ?_) (a' := ?_) #[true, true, false, false, false, false, false, false, false, false, false, false, false, false, false, false, false, false] rfl rfl (by kernel_rfl) (fun _ _ _ h => h) (Or.inl ⟨by rfl, ?_⟩) ?_ ?_
          rotate_left
          · intro w'
            go_simp
            with_reducible rfl
          rotate_left
          · simp only [Act.put, List.setIfInBounds_toArray, List.set_cons_zero, List.set_cons_succ, i64_w, i32_w]
            rfl
          refine pure_ (i := 2) (N := some 122) (v := ?_) (a' := ?_) #[true, true, true, false, false, false, false, false, false, false, false, false, false, false, false, false, false, false] rfl rfl (by kernel_rfl) (fun _ _ _ h => h) (Or.inl ⟨by rfl, ?_⟩) ?_ ?_
          rotate_left
          · intro w'
            go_simp
            with_reducible rfl
          rotate_left
          · simp only [Act.put, List.setIfInBounds_toArray, List.set_cons_zero, List.set_cons_succ, i64_w, i32_w]
            rfl
          refine pure_ (i := 3) (N := some 123) (v := ?_) (a' := ?_) #[true, true, true, true, false, false, false, false, false, false, false, false, false, false, false, false, false, false] rfl rfl (by kernel_rfl) (fun _ _ _ h => h) (Or.inl ⟨by rfl, ?_⟩) ?_ ?_
          rotate_left
          · intro w'
            go_simp
            with_reducible rfl
          rotate_left
          · simp only [Act.put, List.setIfInBounds_toArray, List.set_cons_zero, List.set_cons_succ, i64_w, i32_w]
            rfl
          refine pure_ (i := 5) (N := some 125) (v := ?_) (a' := ?_) #[true, true, true, true, false, true, false, false, false, false, false, false, false, false, false, false, false, false] rfl rfl (by kernel_rfl) (fun _ _ _ h => h) (Or.inl ⟨by rfl, ?_⟩) ?_ ?_
          rotate_left
          · intro w'
            go_simp
            with_reducible rfl
          rotate_left
          · simp only [Act.put, List.setIfInBounds_toArray, List.set_cons_zero, List.set_cons_succ, i64_w, i32_w]
            rfl
          refine take_ (i := 4) (N := some 124) (v := ?_) (a' := ?_) #[true, true, true, true, true, true, false, false, false, false, false, false, false, false, false, false, false, false] rfl rfl (by kernel_rfl) (fun _ _ _ h => h) (Or.inl ⟨by rfl, ?_⟩) hHeld ?_ ?_
          rotate_left
          · rintro w' ⟨s0, s1, s2, s3, s4, s5, s6, s7, s8, s9, s10⟩
            go_simp
            with_reducible rfl
          rotate_left
          · simp only [Act.put, List.setIfInBounds_toArray, List.set_cons_zero, List.set_cons_succ, i64_w, i32_w]
            rfl
          refine take_ (i := 6) (N := some 126) (v := ?_) (a' := ?_) #[true, true, true, true, true, true, true, false, false, false, false, false, false, false, false, false, false, false] rfl rfl (by kernel_rfl) (fun _ _ _ h => h) (Or.inl ⟨by rfl, ?_⟩) hHeld ?_ ?_
          rotate_left
          · rintro w' ⟨s0, s1, s2, s3, s4, s5, s6, s7, s8, s9, s10⟩
            go_simp
            with_reducible rfl
          rotate_left
          · simp only [Act.put, List.setIfInBounds_toArray, List.set_cons_zero, List.set_cons_succ, i64_w, i32_w]
            rfl
          refine pure_ (i := 7) (N := some 127) (v := ?_) (a' := ?_) #[true, true, true, true, true, true, true, true, false, false, false, false, false, false, false, false, false, false] rfl rfl (by kernel_rfl) (fun _ _ _ h => h) (Or.inl ⟨by rfl, ?_⟩) ?_ ?_
          rotate_left
          · intro w'
            go_simp
            with_reducible rfl
          rotate_left
          · simp only [Act.put, List.setIfInBounds_toArray, List.set_cons_zero, List.set_cons_succ, i64_w, i32_w]
            rfl
          refine pure_ (i := 8) (N := some 128) (v := ?_) (a' := ?_) #[true, true, true, true, true, true, true, true, true, false, false, false, false, false, false, false, false, false] rfl rfl (by kernel_rfl) (fun _ _ _ h => h) (Or.inl ⟨by rfl, ?_⟩) ?_ ?_
          rotate_left
          · intro w'
            go_simp
            with_reducible rfl
          rotate_left
          · simp only [Act.put, List.setIfInBounds_toArray, List.set_cons_zero, List.set_cons_succ, i64_w, i32_w]
            rfl
          refine pure_ (i := 9) (N := some 129) (v := ?_) (a' := ?_) #[true, true, true, true, true, true, true, true, true, true, false, false, false, false, false, false, false, false] rfl rfl (by kernel_rfl) (fun _ _ _ h => h) (Or.inl ⟨by rfl, ?_⟩) ?_ ?_
          rotate_left
          · intro w'
            go_simp
            with_reducible rfl
          rotate_left
          · simp only [Act.put, List.setIfInBounds_toArray, List.set_cons_zero, List.set_cons_succ, i64_w, i32_w]
            rfl
          refine pure_ (i := 10) (N := some 130) (v := ?_) (a' := ?_) #[true, true, true, true, true, true, true, true, true, true, true, false, false, false, false, false, false, false] rfl rfl (by kernel_rfl) (fun _ _ _ h => h) (Or.inl ⟨by rfl, ?_⟩) ?_ ?_
          rotate_left
          · intro w'
            go_simp
            with_reducible rfl
          rotate_left
          · simp only [Act.put, List.setIfInBounds_toArray, List.set_cons_zero, List.set_cons_succ, i64_w, i32_w]
            rfl
          refine pure_ (i := 11) (N := some 131) (v := ?_) (a' := ?_) #[true, true, true, true, true, true, true, true, true, true, true, true, false, false, false, false, false, false] rfl rfl (by kernel_rfl) (fun _ _ _ h => h) (Or.inl ⟨by rfl, ?_⟩) ?_ ?_
          rotate_left
          · intro w'
            go_simp
            with_reducible rfl
          rotate_left
          · simp only [Act.put, List.setIfInBounds_toArray, List.set_cons_zero, List.set_cons_succ, i64_w, i32_w]
            rfl
          refine take_ (i := 12) (N := some 132) (v := ?_) (a' := ?_) #[true, true, true, true, true, true, true, true, true, true, true, true, true, false, false, false, false, false] rfl rfl (by kernel_rfl) (fun _ _ _ h => h) (Or.inl ⟨by rfl, ?_⟩) hHeld ?_ ?_
          rotate_left
          · rintro w' ⟨s0, s1, s2, s3, s4, s5, s6, s7, s8, s9, s10⟩
            go_simp
            with_reducible rfl
          rotate_left
          · simp only [Act.put, List.setIfInBounds_toArray, List.set_cons_zero, List.set_cons_succ, i64_w, i32_w]
            rfl
          refine take_ (i := 13) (N := some 133) (v := ?_) (a' := ?_) #[true, true, true, true, true, true, true, true, true, true, true, true, true, true, false, false, false, false] rfl rfl (by kernel_rfl) (fun _ _ _ h => h) (Or.inl ⟨by rfl, ?_⟩) hHeld ?_ ?_
          rotate_left
          · rintro w' ⟨s0, s1, s2, s3, s4, s5, s6, s7, s8, s9, s10⟩
            go_simp
            with_reducible rfl
          rotate_left
          · simp only [Act.put, List.setIfInBounds_toArray, List.set_cons_zero, List.set_cons_succ, i64_w, i32_w]
            rfl
          refine one_ (i := 14) (N := some 134) #[true, true, true, true, true, true, true, true, true, true, true, true, true, true, true, false, false, false] rfl rfl (by kernel_rfl) (by decide) (fun K hK => ?_)
          refine goes_ Try.func14 (by kernel_rfl) rfl #[.agg #[.int .u64 y.f0, .string y.f1, .int .u64 y.f2.f0, .string y.f2.f1, .slice G4 y.f3.length o4], .agg #[.int .u64 y.f0, .string y.f1, .int .u64 y.f2.f0, .string y.f2.f1, .slice E4 y.f3.length e4]] (by rfl) rfl rfl (by simp only [List.map_toArray, List.map_cons, List.map_nil]; rfl) ?_
          with_reducible refine (hone.out _ (Below.refl w15.heap.size w15).drew).mono ?_
          rintro e w16 ⟨rfl, hb⟩
          refine ⟨_, rfl, ?_⟩
          have HB16 := Aside0.mk (below_step (Below.refl w15.heap.size w15).drew hb)
          clear hb
          refine hK.out _ _ ⟨(hqY.out _ HB16.out).1, (hqY.out _ HB16.out).2.1, (hqY.out _ HB16.out).2.2.1, (hqY.out _ HB16.out).2.2.2.1, (hqY.out _ HB16.out).2.2.2.2, (hqS.out _ (below_step HB15.out HB16.out)).1, (hqJ.out _ HB16.out).1, (hqJ.out _ HB16.out).2.1, (hqJ.out _ HB16.out).2.2.1, (hqJ.out _ HB16.out).2.2.2.1, (hqJ.out _ HB16.out).2.2.2.2⟩ (fun hHeld => ?_)
          clear hK K
          refine norm_ (a' := ?_) ?_ ?_
          rotate_left
          · show Act.put _ (some 134) _ = _
            simp only [Act.put, List.setIfInBounds_toArray, List.set_cons_zero, List.set_cons_succ, i64_w, i32_w]
            rfl
          refine pure_ (i := 15) (N := some 135) (v := ?_) (a' := ?_) #[true, true, true, true, true, true, true, true, true, true, true, true, true, true, true, true, false, false] rfl rfl (by kernel_rfl) (fun _ _ _ h => h) (Or.inl ⟨by rfl, ?_⟩) ?_ ?_
          rotate_left
          · intro w'
            go_simp
            with_reducible rfl
          rotate_left
          · simp only [Act.put, List.setIfInBounds_toArray, List.set_cons_zero, List.set_cons_succ, i64_w, i32_w]
            rfl
          refine pure_ (i := 16) (N := some 136) (v := ?_) (a' := ?_) #[true, true, true, true, true, true, true, true, true, true, true, true, true, true, true, true, true, false] rfl rfl (by kernel_rfl) (fun _ _ _ h => h) (Or.inl ⟨by rfl, ?_⟩) ?_ ?_
          rotate_left
          · intro w'
            go_simp
            with_reducible rfl
          rotate_left
          · simp only [Act.put, List.setIfInBounds_toArray, List.set_cons_zero, List.set_cons_succ, i64_w, i32_w]
            rfl
          refine pure_ (i := 17) (N := some 137) (v := ?_) (a' := ?_) #[true, true, true, true, true, true, true, true, true, true, true, true, true, true, true, true, true, true] rfl rfl (by kernel_rfl) (fun _ _ _ h => h) (Or.inl ⟨by rfl, ?_⟩) ?_ ?_
          rotate_left
          · intro w'
            go_simp
            with_reducible rfl
          rotate_left
          · simp only [Act.put, List.setIfInBounds_toArray, List.set_cons_zero, List.set_cons_succ, i64_w, i32_w]
            rfl
          refine done_ (by kernel_rfl) ?_
          have hBe := Aside0.mk (below_step hB15.out HB16.out)
          clear hHeld hBr
          go_wp2
          go_roundw
          case rel => exact ⟨j + 1, by omega, by go_num, hBe.out⟩
          case measure => simp [intOf]; omega
      · obtain rfl : j = l.length := by omega
        go_wp2
        go_ret
        exact ⟨by simp, below_step hBend.out hBr⟩
end Go.Proofs.Ytkomcddnfjbifaa.Q
