/- PrekeysFetch: what is fetched of any user's, and what is left, are as the document says, or refused.
   Conditions: the list is read as shelves. -/
import Derived.Test.YtkomcddnfjbifaaHAlive
import Derived.Test.YtkomcddnfjbifaaHRest
import Derived.Test.YtkomcddnfjbifaaHFetch
import Derived.Test.YtkomcddnfjbifaaHPure
import Derived.Test.YtkomcddnfjbifaaHOpen
namespace Go.Proofs.Ytkomcddnfjbifaa.Q
open Go.RowKit Go.Proofs.YtkomcddnfjbifaaW.PrintWords Go.Proofs.YtkomcddnfjbifaaW.PrintLast Go.Proofs.YtkomcddnfjbifaaW.PrintMore
set_option linter.unusedVariables false
set_option linter.unusedSimpArgs false

attribute [local go_sem] max2_int min2_int max_two min_two max_three min_three max_four min_four
/-- What few gives: at most ten shelves, of at most 22 points, with numbers of 64 bits. -/
def small (l : List S29) : Prop := l.length ≤ 10 ∧ (∀ s ∈ l, s.f3.length ≤ 22) ∧ (∀ s ∈ l, ∀ p ∈ s.f3, (Lit.int .u64 p.f0).wf = true) ∧ ∀ s ∈ l, ∀ p ∈ s.f3, 0 ≤ p.f0
theorem small_few (l : List S29) (h : good22 l) : small (fewP l) := by
  have hm : ∀ s ∈ fewP l, ∃ t ∈ l, s = cutS t := by
    intro s hs
    obtain ⟨t, ht, rfl⟩ := List.mem_map.1 hs
    exact ⟨t, List.mem_of_mem_take ht, rfl⟩
  have hw : ∀ s ∈ fewP l, ∀ p ∈ s.f3, (Lit.int .u64 p.f0).wf = true := by
    intro s hs p hp
    obtain ⟨t, ht, rfl⟩ := hm s hs
    exact ((h.2 t ht).2.2.2.2 p (List.mem_of_mem_take hp)).1
  refine ⟨?_, ?_, hw, fun s hs p hp => (bounds_u64 (hw s hs p hp)).1⟩
  · unfold fewP
    rw [List.length_map, List.length_take]
    omega
  · intro s hs
    obtain ⟨t, ht, rfl⟩ := hm s hs
    show (t.f3.take 22).length ≤ 22
    rw [List.length_take]
    omega
theorem set_grown (w : World) (p : Addr) (v : Value) : w.grownBy (w.setCell p v) (some p.block) := ⟨rfl, rfl, rfl, by simp [World.setCell], fun k _ hk => Below.heap_setCell w p v k (fun e => hk (by rw [e]))⟩
def z29_ : S29 := { f0 := 0, f1 := ⟨#[]⟩, f2 := { f0 := 0, f1 := ⟨#[]⟩ }, f3 := [] }
theorem one_zero (w : World) : Calls Try.prog 14 #[zer29, zer29] w fun e w' => e = .returned (.bool true) ∧ Below w.heap.size w w' :=
  demurralref15_One.calls 2000 0 ⟨#[]⟩ 0 ⟨#[]⟩ none 0 [] 0 ⟨#[]⟩ 0 ⟨#[]⟩ none 0 [] true w (Kd.C_nil _ _) (Nat.le_refl _) (Kd.C_nil _ _) (Nat.le_refl _) (by rw [← oneB_refl z29_]; exact one_f z29_ z29_ (by simp [z29_]) 2000 (by omega))
theorem left_no {l : List S29} {u : Int} {e : Ending} (h : LeftE l u e) (hR : rightB l = false) : e = .returned (.tuple #[.int .i64 0, .int .i64 1]) := by
  rcases h with ⟨_, rfl⟩ | ⟨h, _⟩ | ⟨h, _⟩
  · rfl
  · rw [hR] at h; cases h
  · rw [hR] at h; cases h
theorem left_none {l : List S29} {u : Int} {e : Ending} (h : LeftE l u e) (hR : rightB l = true) (hno : ∀ k : Nat, k < l.length → (rd_T29 l (k : Int)).f0 ≠ u) : e = .returned (.tuple #[.int .i64 0, .int .i64 5]) := by
  rcases h with ⟨h, _⟩ | ⟨_, _, rfl⟩ | ⟨_, i, hi, hu, _⟩
  · rw [hR] at h; cases h
  · rfl
  · exact absurd hu (hno i hi)
theorem right_one {l : List S29} (hR : rightB l = true) {i j : Nat} (hi : i < l.length) (hj : j < l.length) (h : (rd_T29 l (i : Int)).f0 = (rd_T29 l (j : Int)).f0) : i = j := by
  rcases Nat.lt_trichotomy i j with h1 | h1 | h1
  · have := right_rises hR j i h1 hj; omega
  · exact h1
  · have := right_rises hR i j h1 hi; omega
theorem left_some {l : List S29} {u : Int} {e : Ending} (h : LeftE l u e) (hR : rightB l = true) {i : Nat} (hi : i < l.length) (hu : (rd_T29 l (i : Int)).f0 = u) : e = .returned (.tuple #[.int .i64 ((rd_T29 l (i : Int)).f3.length : Int), .int .i64 0]) := by
  rcases h with ⟨h, _⟩ | ⟨_, h, _⟩ | ⟨_, j, hj, hu', rfl⟩
  · rw [hR] at h; cases h
  · exact absurd hu (h i hi)
  · rw [right_one hR hj hi (by rw [hu, hu'])]
set_option maxHeartbeats 4000000 in
set_option maxRecDepth 100000 in
theorem fetch_walk (A0 : Option Addr) (c0 : Nat) (l0 : List S29) (u : Int) (w : World) (hr0 : Kd.C k29 w A0 l0.length l0) (hc0 : l0.length ≤ c0) (g0 : good22 l0) (g1 : (Lit.int .u64 u).wf = true) :
    Calls Try.prog 3 #[.slice A0 l0.length c0, .int .u64 u] w fun e w' => e = .returned (.bool true) ∧ Below w.heap.size w w' := by
  have hsm := small_few l0 g0
  have hfw := Aside0.mk (few_own A0 c0 l0 w hr0 hc0)
  obtain ⟨l, hl⟩ : ∃ l, fewP l0 = l := ⟨_, rfl⟩
  rw [hl] at hsm hfw
  clear hr0 g0 hl hc0
  obtain ⟨hl10, hl22, hwf, hpos⟩ := hsm
  replace hl22 := Lib.hid hl22
  replace hwf := Aside0.mk hwf
  replace hpos := Aside0.mk hpos
  go_enter Try.func3, Try.ntmps3
  go_wp2_with fail
  refine hfw.out.mono ?_; rintro e_ w1 ⟨v, rfl, hR1, hb1⟩
  obtain ⟨A, c, rfl, hcc, hC1⟩ := Kd.R_reads hR1
  replace hC1 := Aside0.mk (kdAt_C hC1 hb1)
  clear hR1 hfw
  have hFc := Aside0.mk (fetch_calls A c l u w1 hC1.out hcc (by omega) hwf.out)
  go_wp2_with fail
  refine hFc.out.mono ?_; rintro e_ w2 ⟨hF, hb2⟩
  clear hFc
  have hB2 := below_step hb1 hb2
  have hC2 := Aside0.mk (Kd.C_below hC1.out hb2)
  obtain ⟨w3, hw3⟩ : ∃ w3, w2.alloc (.cells #[.int .u64 0, .string ⟨#[]⟩, .int .u64 0, .string ⟨#[]⟩, .slice none 0 0] 29 (0, 0)) = w3 := ⟨_, rfl⟩
  have hb3 : Below w2.heap.size w2 w3 := by rw [← hw3]; exact below_alloc (Below.refl _ _) _
  have hs3 : w3.heap.size = w2.heap.size + 1 := by rw [← hw3]; simp
  have hK3 : w3.heap[w2.heap.size]? = some (.cells #[.int .u64 0, .string ⟨#[]⟩, .int .u64 0, .string ⟨#[]⟩, .slice none 0 0] 29 (0, 0)) := by rw [← hw3]; exact heap_alloc_new _ _
  have hrf := right_f l (by omega) hpos.out
  rcases hF with ⟨hR, rfl⟩ | ⟨hR, hno, rfl⟩ | ⟨hR, i, x, A', c', B, cB, hi, hx, hu, rfl, hcc', hC, hcB, hCB⟩
  · go_wp2_with ((with_reducible refine gate_store (t := 29) (p := 6) rfl ?_); go_loud (refine wpList_storeBox rfl rfl 29 (.tmp 6) (.tmp 21) rfl zer29 [.int .u64 0, .string ⟨#[]⟩, .int .u64 0, .string ⟨#[]⟩, .slice none 0 0] rfl rfl rfl (by kernel_rfl) (by simp [Value.oneCell']) hK3 rfl ?_); intro w4 hK4 hg4 hs4)
    have hb4 : Below w2.heap.size w2 w4 := pw_below_grown hb3 _ hb3.size hg4 (fun k hk => by cases hk; exact Nat.le_refl _)
    have hlc := Aside0.mk (left_calls A c l u w4 (Kd.C_below hC2.out hb4) hcc (by omega) hwf.out)
    clear hw3 hb3 hg4 hK3
    go_wp2_with fail
    refine hlc.out.mono ?_; rintro e_ w5 ⟨hle, hb5⟩
    obtain rfl := left_no hle hR
    have hB5 := below_step hb4 hb5
    obtain ⟨r, hr, hrr⟩ := at_f_any l u (by omega)
    have hac := Aside0.mk (demurralref15_At.calls 2000 A c l u r w5 (Kd.C_below hC2.out hB5) hcc hr)
    clear hlc hb4
    go_wp2_with fail
    refine hac.out.mono ?_; rintro e_ w6 ⟨rfl, hb6⟩
    have hB6 := below_step hB5 hb6
    have hrc := Aside0.mk (demurralref15_Right.calls 2000 A c l _ w6 (Kd.C_below hC2.out hB6) hcc hrf)
    clear hac hr hB5
    go_wp2_with fail
    refine hrc.out.mono ?_; rintro e_ w7 ⟨rfl, hb7⟩
    have hB7 := below_step hB6 hb7
    clear hrc hB6
    rw [hR]
    clear hrr
    go_wp2_with fail
    refine (alive_calls w7).mono ?_; rintro e_ w8 ⟨rfl, hb8⟩
    have hB8 := below_step hB7 hb8
    have hK8 := ((below_step hb5 (below_step hb6 (below_step hb7 hb8))).block _ (blk_lt hK4)).trans hK4
    obtain ⟨y0, y1, y2, y3, y4⟩ := box5 hK8
    go_wp2_with fail
    refine (one_zero w8).mono ?_; rintro e_ w9 ⟨rfl, hb9⟩
    have hB9 := below_step hB2 (below_step hB8 hb9)
    go_wp2
    go_ret
    exact ⟨rfl, hB9⟩
  · skip
    go_wp2_with ((with_reducible refine gate_store (t := 29) (p := 6) rfl ?_); go_loud (refine wpList_storeBox rfl rfl 29 (.tmp 6) (.tmp 21) rfl zer29 [.int .u64 0, .string ⟨#[]⟩, .int .u64 0, .string ⟨#[]⟩, .slice none 0 0] rfl rfl rfl (by kernel_rfl) (by simp [Value.oneCell']) hK3 rfl ?_); intro w4 hK4 hg4 hs4)
    have hb4 : Below w2.heap.size w2 w4 := pw_below_grown hb3 _ hb3.size hg4 (fun k hk => by cases hk; exact Nat.le_refl _)
    have hlc := Aside0.mk (left_calls A c l u w4 (Kd.C_below hC2.out hb4) hcc (by omega) hwf.out)
    clear hw3 hb3 hg4 hK3
    go_wp2_with fail
    refine hlc.out.mono ?_; rintro e_ w5 ⟨hle, hb5⟩
    obtain rfl := left_none hle hR hno
    have hB5 := below_step hb4 hb5
    obtain ⟨r, hr, hrr⟩ := at_f_any l u (by omega)
    have hac := Aside0.mk (demurralref15_At.calls 2000 A c l u r w5 (Kd.C_below hC2.out hB5) hcc hr)
    clear hlc hb4
    go_wp2_with fail
    refine hac.out.mono ?_; rintro e_ w6 ⟨rfl, hb6⟩
    have hB6 := below_step hB5 hb6
    have hrc := Aside0.mk (demurralref15_Right.calls 2000 A c l _ w6 (Kd.C_below hC2.out hB6) hcc hrf)
    clear hac hr hB5
    go_wp2_with fail
    refine hrc.out.mono ?_; rintro e_ w7 ⟨rfl, hb7⟩
    have hB7 := below_step hB6 hb7
    clear hrc hB6
    obtain rfl : r = -1 := by
      rcases hrr with ⟨h, _⟩ | ⟨t, _, ht, hut⟩
      · exact h
      · exact absurd hut (hno t ht)
    rw [hR]
    clear hrr hno
    go_wp2_with fail
    refine (alive_calls w7).mono ?_; rintro e_ w8 ⟨rfl, hb8⟩
    have hB8 := below_step hB7 hb8
    have hK8 := ((below_step hb5 (below_step hb6 (below_step hb7 hb8))).block _ (blk_lt hK4)).trans hK4
    obtain ⟨y0, y1, y2, y3, y4⟩ := box5 hK8
    go_wp2_with fail
    refine (one_zero w8).mono ?_; rintro e_ w9 ⟨rfl, hb9⟩
    have hB9 := below_step hB2 (below_step hB8 hb9)
    go_wp2
    go_ret
    exact ⟨rfl, hB9⟩
  · obtain ⟨n, hn⟩ : ∃ n, (x.f3.take 1).length = n := ⟨_, rfl⟩
    obtain ⟨t1, ht1⟩ : ∃ t1, x.f3.take 1 = t1 := ⟨_, rfl⟩
    rw [hn] at hcB
    rw [ht1, show t1.length = n from ht1 ▸ hn] at hCB
    rw [show sv { x with f3 := x.f3.take 1 } B cB = .agg #[.int .u64 x.f0, .string x.f1, .int .u64 x.f2.f0, .string x.f2.f1, .slice B n cB] by rw [← hn]]
    have hAt := at_here l u (by omega) hR i hi (by rw [hx]; exact hu)
    have hW := with_set l { x with f3 := x.f3.drop 1 } (by omega) hR i hi (by rw [hx])
    have hlu : (rd_T29 l (i : Int)).f0 = u := by rw [hx]; exact hu
    replace hn := Lib.hid hn
    replace hu := Lib.hid hu
    replace hlu := Lib.hid hlu
    replace ht1 := Lib.hid ht1
    replace hx := Lib.hid hx
    replace hC := Aside0.mk hC
    replace hCB := Aside0.mk hCB
    replace hW := Aside0.mk hW
    go_wp2_with ((with_reducible refine gate_store (t := 29) (p := 6) rfl ?_); go_loud (refine wpList_storeBox rfl rfl 29 (.tmp 6) (.tmp 21) rfl (.agg #[.int .u64 x.f0, .string x.f1, .int .u64 x.f2.f0, .string x.f2.f1, .slice B n cB]) [.int .u64 x.f0, .string x.f1, .int .u64 x.f2.f0, .string x.f2.f1, .slice B n cB] rfl rfl rfl (by kernel_rfl) (by simp [Value.oneCell']) hK3 rfl ?_); intro w4 hK4 hg4 hs4)
    have hb4 : Below w2.heap.size w2 w4 := pw_below_grown hb3 _ hb3.size hg4 (fun k hk => by cases hk; exact Nat.le_refl _)
    have hlc := Aside0.mk (left_calls A c l u w4 (Kd.C_below hC2.out hb4) hcc (by omega) hwf.out)
    clear hw3 hb3 hg4 hK3
    go_wp2_with fail
    refine hlc.out.mono ?_; rintro e_ w5 ⟨hle, hb5⟩
    replace hle := left_some hle hR hi hlu.out
    rw [hx.out] at hle
    subst hle
    have hB5 := below_step hb4 hb5
    have hac := Aside0.mk (demurralref15_At.calls 2000 A c l u _ w5 (Kd.C_below hC2.out hB5) hcc hAt)
    clear hlc hb4
    go_wp2_with fail
    refine hac.out.mono ?_; rintro e_ w6 ⟨rfl, hb6⟩
    have hB6 := below_step hB5 hb6
    have hrc := Aside0.mk (demurralref15_Right.calls 2000 A c l _ w6 (Kd.C_below hC2.out hB6) hcc hrf)
    clear hac hAt hB5
    go_wp2_with fail
    refine hrc.out.mono ?_; rintro e_ w7 ⟨rfl, hb7⟩
    have hB7 := below_step hB6 hb7
    have hK7 := Aside0.mk (((below_step hb5 (below_step hb6 hb7)).block _ (blk_lt hK4)).trans hK4)
    clear hrc hB6
    rw [hR]
    obtain ⟨ad, A4, c4, eA, q0, q1, q2, q3, q4, hc4, hC4⟩ := at_T29 (Kd.C_below hC2.out hB7) (i : Int) (by omega) (by omega)
    subst eA
    rw [hx.out, Int.toNat_natCast] at q0 q1 q2 q3 q4
    rw [hx.out] at hc4 hC4
    have hadl : (ad.add (i * 5)).block < w7.heap.size := block_lt_of_cell q0
    have hq : Hid (∀ W, Below w7.heap.size w7 W → W.cell? (ad.add (i * 5)) = some (.int .u64 x.f0) ∧ W.cell? ⟨(ad.add (i * 5)).block, (ad.add (i * 5)).off + 1, none⟩ = some (.string x.f1) ∧ W.cell? ⟨(ad.add (i * 5)).block, (ad.add (i * 5)).off + 2, none⟩ = some (.int .u64 x.f2.f0) ∧ W.cell? ⟨(ad.add (i * 5)).block, (ad.add (i * 5)).off + 3, none⟩ = some (.string x.f2.f1) ∧ W.cell? ⟨(ad.add (i * 5)).block, (ad.add (i * 5)).off + 4, none⟩ = some (.slice A4 x.f3.length c4)) := Lib.hid fun W hW => by
      have hl : (ad.add (i * 5)).block < w7.heap.size := hadl
      exact ⟨(Below.cell (p := (ad.add (i * 5))) hW hl).trans q0, (Below.cell (p := ⟨(ad.add (i * 5)).block, (ad.add (i * 5)).off + 1, none⟩) hW hl).trans q1, (Below.cell (p := ⟨(ad.add (i * 5)).block, (ad.add (i * 5)).off + 2, none⟩) hW hl).trans q2, (Below.cell (p := ⟨(ad.add (i * 5)).block, (ad.add (i * 5)).off + 3, none⟩) hW hl).trans q3, (Below.cell (p := ⟨(ad.add (i * 5)).block, (ad.add (i * 5)).off + 4, none⟩) hW hl).trans q4⟩
    obtain ⟨B2, c2, hrest, hc2, hC2r⟩ := rest_own A4 c4 x.f3 hc4
    obtain ⟨m, hm⟩ : ∃ m, (x.f3.drop 1).length = m := ⟨_, rfl⟩
    rw [hm] at hrest hc2 hC2r
    replace hrest := Lib.hid hrest
    replace hC2r := Lib.hid hC2r
    replace hm := Lib.hid hm
    replace hC4 := Aside0.mk hC4
    clear hadl q0 q1 q2 q3 q4
    have hin : (i : Int) < l.length := by omega
    go_wp2
    refine start_ (n := 12) (S := fun w' => w'.cell? (ad.add (i * 5)) = some (.int .u64 x.f0) ∧ w'.cell? ⟨(ad.add (i * 5)).block, (ad.add (i * 5)).off + 1, none⟩ = some (.string x.f1) ∧ w'.cell? ⟨(ad.add (i * 5)).block, (ad.add (i * 5)).off + 2, none⟩ = some (.int .u64 x.f2.f0) ∧ w'.cell? ⟨(ad.add (i * 5)).block, (ad.add (i * 5)).off + 3, none⟩ = some (.string x.f2.f1) ∧ w'.cell? ⟨(ad.add (i * 5)).block, (ad.add (i * 5)).off + 4, none⟩ = some (.slice A4 x.f3.length c4)) (ds := []) #[false, false, false, false, false, false, false, false, false, false, false, false] (by kernel_rfl) rfl rfl ⟨(hq.out _ (Below.refl w7.heap.size w7).drew).1, (hq.out _ (Below.refl w7.heap.size w7).drew).2.1, (hq.out _ (Below.refl w7.heap.size w7).drew).2.2.1, (hq.out _ (Below.refl w7.heap.size w7).drew).2.2.2.1, (hq.out _ (Below.refl w7.heap.size w7).drew).2.2.2.2⟩ (fun hHeld => ?_)
    refine pure_ (i := 0) (N := some 66) (v := ?_) (a' := ?_) #[true, false, false, false, false, false, false, false, false, false, false, false] rfl rfl (by kernel_rfl) (fun _ _ _ h => h) (Or.inl ⟨by rfl, ?_⟩) ?_ ?_
    rotate_left
    · intro w'
      go_simp
      with_reducible rfl
    rotate_left
    · simp only [Act.put, List.setIfInBounds_toArray, List.set_cons_zero, List.set_cons_succ, i64_w, i32_w]
      rfl
    refine pure_ (i := 1) (N := some 67) (v := ?_) (a' := ?_) #[true, true, false, false, false, false, false, false, false, false, false, false] rfl rfl (by kernel_rfl) (fun _ _ _ h => h) (Or.inl ⟨by rfl, ?_⟩) ?_ ?_
    rotate_left
    · intro w'
      go_simp
      with_reducible rfl
    rotate_left
    · simp only [Act.put, List.setIfInBounds_toArray, List.set_cons_zero, List.set_cons_succ, i64_w, i32_w]
      rfl
    refine pure_ (i := 2) (N := some 68) (v := ?_) (a' := ?_) #[true, true, true, false, false, false, false, false, false, false, false, false] rfl rfl (by kernel_rfl) (fun _ _ _ h => h) (Or.inl ⟨by rfl, ?_⟩) ?_ ?_
    rotate_left
    · intro w'
      go_simp
      with_reducible rfl
    rotate_left
    · simp only [Act.put, List.setIfInBounds_toArray, List.set_cons_zero, List.set_cons_succ, i64_w, i32_w]
      rfl
    refine pure_ (i := 4) (N := some 70) (v := ?_) (a' := ?_) #[true, true, true, false, true, false, false, false, false, false, false, false] rfl rfl (by kernel_rfl) (fun _ _ _ h => h) (Or.inl ⟨by rfl, ?_⟩) ?_ ?_
    rotate_left
    · intro w'
      go_simp
      with_reducible rfl
    rotate_left
    · simp only [Act.put, List.setIfInBounds_toArray, List.set_cons_zero, List.set_cons_succ, i64_w, i32_w]
      rfl
    refine pure_ (i := 5) (N := some 71) (v := ?_) (a' := ?_) #[true, true, true, false, true, true, false, false, false, false, false, false] rfl rfl (by kernel_rfl) (fun _ _ _ h => h) (Or.inl ⟨by rfl, ?_⟩) ?_ ?_
    rotate_left
    · intro w'
      go_simp
      with_reducible rfl
    rotate_left
    · simp only [Act.put, List.setIfInBounds_toArray, List.set_cons_zero, List.set_cons_succ, i64_w, i32_w]
      rfl
    refine pure_ (i := 6) (N := some 72) (v := ?_) (a' := ?_) #[true, true, true, false, true, true, true, false, false, false, false, false] rfl rfl (by kernel_rfl) (fun _ _ _ h => h) (Or.inl ⟨by rfl, ?_⟩) ?_ ?_
    rotate_left
    · intro w'
      go_simp
      with_reducible rfl
    rotate_left
    · simp only [Act.put, List.setIfInBounds_toArray, List.set_cons_zero, List.set_cons_succ, i64_w, i32_w]
      rfl
    refine take_ (i := 3) (N := some 69) (v := ?_) (a' := ?_) #[true, true, true, true, true, true, true, false, false, false, false, false] rfl rfl (by kernel_rfl) (fun _ _ _ h => h) (Or.inl ⟨by rfl, ?_⟩) hHeld ?_ ?_
    rotate_left
    · rintro w' ⟨s0, s1, s2, s3, s4⟩
      go_simp
      with_reducible rfl
    rotate_left
    · simp only [Act.put, List.setIfInBounds_toArray, List.set_cons_zero, List.set_cons_succ, i64_w, i32_w]
      rfl
    refine take_ (i := 7) (N := some 73) (v := ?_) (a' := ?_) #[true, true, true, true, true, true, true, true, false, false, false, false] rfl rfl (by kernel_rfl) (fun _ _ _ h => h) (Or.inl ⟨by rfl, ?_⟩) hHeld ?_ ?_
    rotate_left
    · rintro w' ⟨s0, s1, s2, s3, s4⟩
      go_simp
      with_reducible rfl
    rotate_left
    · simp only [Act.put, List.setIfInBounds_toArray, List.set_cons_zero, List.set_cons_succ, i64_w, i32_w]
      rfl
    refine join_ (σ := Nat × Nat) 2 #[true, true, true, true, true, true, true, true, true, true, false, false] (fun s_ => [(12, .pointer (some ⟨s_.1, 0, none⟩)), (13, .pointer (some ⟨s_.2, 0, none⟩))]) (fun s_ w' => (w'.cell? (ad.add (i * 5)) = some (.int .u64 x.f0) ∧ w'.cell? ⟨(ad.add (i * 5)).block, (ad.add (i * 5)).off + 1, none⟩ = some (.string x.f1) ∧ w'.cell? ⟨(ad.add (i * 5)).block, (ad.add (i * 5)).off + 2, none⟩ = some (.int .u64 x.f2.f0) ∧ w'.cell? ⟨(ad.add (i * 5)).block, (ad.add (i * 5)).off + 3, none⟩ = some (.string x.f2.f1) ∧ w'.cell? ⟨(ad.add (i * 5)).block, (ad.add (i * 5)).off + 4, none⟩ = some (.slice A4 x.f3.length c4)) ∧ w'.heap[s_.1]? = some (.cells #[.int .u64 0, .string ⟨#[]⟩, .int .u64 0, .string ⟨#[]⟩, .slice none 0 0] 29 (0, 0)) ∧ w'.heap[s_.2]? = some (.cells #[.int .u64 0, .string ⟨#[]⟩, .int .u64 0, .string ⟨#[]⟩, .slice none 0 0] 29 (0, 0)) ∧ s_.1 ≠ s_.2 ∧ w7.heap.size ≤ s_.1 ∧ w7.heap.size ≤ s_.2 ∧ Below w7.heap.size w7 w') ?_ ?_
    rotate_left
    · intro hCont
      refine two_ (i := 8) (j := 9) (Ni := some 12) (Nj := some 13) #[true, true, true, true, true, true, true, true, true, false, false, false] #[true, true, true, true, true, true, true, true, false, true, false, false] rfl rfl rfl rfl (by kernel_rfl) (by decide) (by decide) (fun K hK => ?_) (fun K hK => ?_)
      · skip
        refine value_ (w1 := ?_) (v := ?_) (by rfl) rfl ?_ ?_
        rotate_left 2
        · go_simp
          constructor
          · rfl
          · rfl
        refine hK.out _ _ ⟨(hq.out _ (below_alloc (Below.refl w7.heap.size w7).drew (.cells #[.int .u64 0, .string ⟨#[]⟩, .int .u64 0, .string ⟨#[]⟩, .slice none 0 0] 29 (0, 0)))).1, (hq.out _ (below_alloc (Below.refl w7.heap.size w7).drew (.cells #[.int .u64 0, .string ⟨#[]⟩, .int .u64 0, .string ⟨#[]⟩, .slice none 0 0] 29 (0, 0)))).2.1, (hq.out _ (below_alloc (Below.refl w7.heap.size w7).drew (.cells #[.int .u64 0, .string ⟨#[]⟩, .int .u64 0, .string ⟨#[]⟩, .slice none 0 0] 29 (0, 0)))).2.2.1, (hq.out _ (below_alloc (Below.refl w7.heap.size w7).drew (.cells #[.int .u64 0, .string ⟨#[]⟩, .int .u64 0, .string ⟨#[]⟩, .slice none 0 0] 29 (0, 0)))).2.2.2.1, (hq.out _ (below_alloc (Below.refl w7.heap.size w7).drew (.cells #[.int .u64 0, .string ⟨#[]⟩, .int .u64 0, .string ⟨#[]⟩, .slice none 0 0] 29 (0, 0)))).2.2.2.2⟩ (fun hHeld => ?_)
        clear hK K
        refine norm_ (a' := ?_) ?_ ?_
        rotate_left
        · show Act.put _ (some 12) _ = _
          simp only [Act.put, List.setIfInBounds_toArray, List.set_cons_zero, List.set_cons_succ, i64_w, i32_w]
          rfl
        refine one_ (i := 9) (N := some 13) #[true, true, true, true, true, true, true, true, true, true, false, false] rfl rfl (by kernel_rfl) (by decide) (fun K hK => ?_)
        refine value_ (w1 := ?_) (v := ?_) (by rfl) rfl ?_ ?_
        rotate_left 2
        · go_simp
          constructor
          · rfl
          · rfl
        refine hK.out _ _ ⟨(hq.out _ (below_alloc (below_alloc (Below.refl w7.heap.size w7).drew (.cells #[.int .u64 0, .string ⟨#[]⟩, .int .u64 0, .string ⟨#[]⟩, .slice none 0 0] 29 (0, 0))) (.cells #[.int .u64 0, .string ⟨#[]⟩, .int .u64 0, .string ⟨#[]⟩, .slice none 0 0] 29 (0, 0)))).1, (hq.out _ (below_alloc (below_alloc (Below.refl w7.heap.size w7).drew (.cells #[.int .u64 0, .string ⟨#[]⟩, .int .u64 0, .string ⟨#[]⟩, .slice none 0 0] 29 (0, 0))) (.cells #[.int .u64 0, .string ⟨#[]⟩, .int .u64 0, .string ⟨#[]⟩, .slice none 0 0] 29 (0, 0)))).2.1, (hq.out _ (below_alloc (below_alloc (Below.refl w7.heap.size w7).drew (.cells #[.int .u64 0, .string ⟨#[]⟩, .int .u64 0, .string ⟨#[]⟩, .slice none 0 0] 29 (0, 0))) (.cells #[.int .u64 0, .string ⟨#[]⟩, .int .u64 0, .string ⟨#[]⟩, .slice none 0 0] 29 (0, 0)))).2.2.1, (hq.out _ (below_alloc (below_alloc (Below.refl w7.heap.size w7).drew (.cells #[.int .u64 0, .string ⟨#[]⟩, .int .u64 0, .string ⟨#[]⟩, .slice none 0 0] 29 (0, 0))) (.cells #[.int .u64 0, .string ⟨#[]⟩, .int .u64 0, .string ⟨#[]⟩, .slice none 0 0] 29 (0, 0)))).2.2.2.1, (hq.out _ (below_alloc (below_alloc (Below.refl w7.heap.size w7).drew (.cells #[.int .u64 0, .string ⟨#[]⟩, .int .u64 0, .string ⟨#[]⟩, .slice none 0 0] 29 (0, 0))) (.cells #[.int .u64 0, .string ⟨#[]⟩, .int .u64 0, .string ⟨#[]⟩, .slice none 0 0] 29 (0, 0)))).2.2.2.2⟩ (fun hHeld => ?_)
        clear hK K
        refine norm_ (a' := ?_) ?_ ?_
        rotate_left
        · show Act.put _ (some 13) _ = _
          simp only [Act.put, List.setIfInBounds_toArray, List.set_cons_zero, List.set_cons_succ, i64_w, i32_w]
          rfl
        exact norm_ (by simp only [putAll, Act.put, List.setIfInBounds_toArray, List.set_cons_zero, List.set_cons_succ]) (hCont (w7.heap.size, w7.heap.size + 1) _ ⟨⟨(hq.out _ (below_alloc (below_alloc (Below.refl w7.heap.size w7).drew (.cells #[.int .u64 0, .string ⟨#[]⟩, .int .u64 0, .string ⟨#[]⟩, .slice none 0 0] 29 (0, 0))) (.cells #[.int .u64 0, .string ⟨#[]⟩, .int .u64 0, .string ⟨#[]⟩, .slice none 0 0] 29 (0, 0)))).1, (hq.out _ (below_alloc (below_alloc (Below.refl w7.heap.size w7).drew (.cells #[.int .u64 0, .string ⟨#[]⟩, .int .u64 0, .string ⟨#[]⟩, .slice none 0 0] 29 (0, 0))) (.cells #[.int .u64 0, .string ⟨#[]⟩, .int .u64 0, .string ⟨#[]⟩, .slice none 0 0] 29 (0, 0)))).2.1, (hq.out _ (below_alloc (below_alloc (Below.refl w7.heap.size w7).drew (.cells #[.int .u64 0, .string ⟨#[]⟩, .int .u64 0, .string ⟨#[]⟩, .slice none 0 0] 29 (0, 0))) (.cells #[.int .u64 0, .string ⟨#[]⟩, .int .u64 0, .string ⟨#[]⟩, .slice none 0 0] 29 (0, 0)))).2.2.1, (hq.out _ (below_alloc (below_alloc (Below.refl w7.heap.size w7).drew (.cells #[.int .u64 0, .string ⟨#[]⟩, .int .u64 0, .string ⟨#[]⟩, .slice none 0 0] 29 (0, 0))) (.cells #[.int .u64 0, .string ⟨#[]⟩, .int .u64 0, .string ⟨#[]⟩, .slice none 0 0] 29 (0, 0)))).2.2.2.1, (hq.out _ (below_alloc (below_alloc (Below.refl w7.heap.size w7).drew (.cells #[.int .u64 0, .string ⟨#[]⟩, .int .u64 0, .string ⟨#[]⟩, .slice none 0 0] 29 (0, 0))) (.cells #[.int .u64 0, .string ⟨#[]⟩, .int .u64 0, .string ⟨#[]⟩, .slice none 0 0] 29 (0, 0)))).2.2.2.2⟩, (alloc2 w7.drew (.cells #[.int .u64 0, .string ⟨#[]⟩, .int .u64 0, .string ⟨#[]⟩, .slice none 0 0] 29 (0, 0)) (.cells #[.int .u64 0, .string ⟨#[]⟩, .int .u64 0, .string ⟨#[]⟩, .slice none 0 0] 29 (0, 0))).1, (alloc2 w7.drew (.cells #[.int .u64 0, .string ⟨#[]⟩, .int .u64 0, .string ⟨#[]⟩, .slice none 0 0] 29 (0, 0)) (.cells #[.int .u64 0, .string ⟨#[]⟩, .int .u64 0, .string ⟨#[]⟩, .slice none 0 0] 29 (0, 0))).2.1, Nat.ne_of_lt (Nat.lt_succ_self _), Nat.le_refl _, Nat.le_succ _, (below_alloc (below_alloc (Below.refl w7.heap.size w7).drew (.cells #[.int .u64 0, .string ⟨#[]⟩, .int .u64 0, .string ⟨#[]⟩, .slice none 0 0] 29 (0, 0))) (.cells #[.int .u64 0, .string ⟨#[]⟩, .int .u64 0, .string ⟨#[]⟩, .slice none 0 0] 29 (0, 0)))⟩)
      · skip
        refine value_ (w1 := ?_) (v := ?_) (by rfl) rfl ?_ ?_
        rotate_left 2
        · go_simp
          constructor
          · rfl
          · rfl
        refine hK.out _ _ ⟨(hq.out _ (below_alloc (Below.refl w7.heap.size w7).drew (.cells #[.int .u64 0, .string ⟨#[]⟩, .int .u64 0, .string ⟨#[]⟩, .slice none 0 0] 29 (0, 0)))).1, (hq.out _ (below_alloc (Below.refl w7.heap.size w7).drew (.cells #[.int .u64 0, .string ⟨#[]⟩, .int .u64 0, .string ⟨#[]⟩, .slice none 0 0] 29 (0, 0)))).2.1, (hq.out _ (below_alloc (Below.refl w7.heap.size w7).drew (.cells #[.int .u64 0, .string ⟨#[]⟩, .int .u64 0, .string ⟨#[]⟩, .slice none 0 0] 29 (0, 0)))).2.2.1, (hq.out _ (below_alloc (Below.refl w7.heap.size w7).drew (.cells #[.int .u64 0, .string ⟨#[]⟩, .int .u64 0, .string ⟨#[]⟩, .slice none 0 0] 29 (0, 0)))).2.2.2.1, (hq.out _ (below_alloc (Below.refl w7.heap.size w7).drew (.cells #[.int .u64 0, .string ⟨#[]⟩, .int .u64 0, .string ⟨#[]⟩, .slice none 0 0] 29 (0, 0)))).2.2.2.2⟩ (fun hHeld => ?_)
        clear hK K
        refine norm_ (a' := ?_) ?_ ?_
        rotate_left
        · show Act.put _ (some 13) _ = _
          simp only [Act.put, List.setIfInBounds_toArray, List.set_cons_zero, List.set_cons_succ, i64_w, i32_w]
          rfl
        refine one_ (i := 8) (N := some 12) #[true, true, true, true, true, true, true, true, true, true, false, false] rfl rfl (by kernel_rfl) (by decide) (fun K hK => ?_)
        refine value_ (w1 := ?_) (v := ?_) (by rfl) rfl ?_ ?_
        rotate_left 2
        · go_simp
          constructor
          · rfl
          · rfl
        refine hK.out _ _ ⟨(hq.out _ (below_alloc (below_alloc (Below.refl w7.heap.size w7).drew (.cells #[.int .u64 0, .string ⟨#[]⟩, .int .u64 0, .string ⟨#[]⟩, .slice none 0 0] 29 (0, 0))) (.cells #[.int .u64 0, .string ⟨#[]⟩, .int .u64 0, .string ⟨#[]⟩, .slice none 0 0] 29 (0, 0)))).1, (hq.out _ (below_alloc (below_alloc (Below.refl w7.heap.size w7).drew (.cells #[.int .u64 0, .string ⟨#[]⟩, .int .u64 0, .string ⟨#[]⟩, .slice none 0 0] 29 (0, 0))) (.cells #[.int .u64 0, .string ⟨#[]⟩, .int .u64 0, .string ⟨#[]⟩, .slice none 0 0] 29 (0, 0)))).2.1, (hq.out _ (below_alloc (below_alloc (Below.refl w7.heap.size w7).drew (.cells #[.int .u64 0, .string ⟨#[]⟩, .int .u64 0, .string ⟨#[]⟩, .slice none 0 0] 29 (0, 0))) (.cells #[.int .u64 0, .string ⟨#[]⟩, .int .u64 0, .string ⟨#[]⟩, .slice none 0 0] 29 (0, 0)))).2.2.1, (hq.out _ (below_alloc (below_alloc (Below.refl w7.heap.size w7).drew (.cells #[.int .u64 0, .string ⟨#[]⟩, .int .u64 0, .string ⟨#[]⟩, .slice none 0 0] 29 (0, 0))) (.cells #[.int .u64 0, .string ⟨#[]⟩, .int .u64 0, .string ⟨#[]⟩, .slice none 0 0] 29 (0, 0)))).2.2.2.1, (hq.out _ (below_alloc (below_alloc (Below.refl w7.heap.size w7).drew (.cells #[.int .u64 0, .string ⟨#[]⟩, .int .u64 0, .string ⟨#[]⟩, .slice none 0 0] 29 (0, 0))) (.cells #[.int .u64 0, .string ⟨#[]⟩, .int .u64 0, .string ⟨#[]⟩, .slice none 0 0] 29 (0, 0)))).2.2.2.2⟩ (fun hHeld => ?_)
        clear hK K
        refine norm_ (a' := ?_) ?_ ?_
        rotate_left
        · show Act.put _ (some 12) _ = _
          simp only [Act.put, List.setIfInBounds_toArray, List.set_cons_zero, List.set_cons_succ, i64_w, i32_w]
          rfl
        exact norm_ (by simp only [putAll, Act.put, List.setIfInBounds_toArray, List.set_cons_zero, List.set_cons_succ]) (hCont (w7.heap.size + 1, w7.heap.size) _ ⟨⟨(hq.out _ (below_alloc (below_alloc (Below.refl w7.heap.size w7).drew (.cells #[.int .u64 0, .string ⟨#[]⟩, .int .u64 0, .string ⟨#[]⟩, .slice none 0 0] 29 (0, 0))) (.cells #[.int .u64 0, .string ⟨#[]⟩, .int .u64 0, .string ⟨#[]⟩, .slice none 0 0] 29 (0, 0)))).1, (hq.out _ (below_alloc (below_alloc (Below.refl w7.heap.size w7).drew (.cells #[.int .u64 0, .string ⟨#[]⟩, .int .u64 0, .string ⟨#[]⟩, .slice none 0 0] 29 (0, 0))) (.cells #[.int .u64 0, .string ⟨#[]⟩, .int .u64 0, .string ⟨#[]⟩, .slice none 0 0] 29 (0, 0)))).2.1, (hq.out _ (below_alloc (below_alloc (Below.refl w7.heap.size w7).drew (.cells #[.int .u64 0, .string ⟨#[]⟩, .int .u64 0, .string ⟨#[]⟩, .slice none 0 0] 29 (0, 0))) (.cells #[.int .u64 0, .string ⟨#[]⟩, .int .u64 0, .string ⟨#[]⟩, .slice none 0 0] 29 (0, 0)))).2.2.1, (hq.out _ (below_alloc (below_alloc (Below.refl w7.heap.size w7).drew (.cells #[.int .u64 0, .string ⟨#[]⟩, .int .u64 0, .string ⟨#[]⟩, .slice none 0 0] 29 (0, 0))) (.cells #[.int .u64 0, .string ⟨#[]⟩, .int .u64 0, .string ⟨#[]⟩, .slice none 0 0] 29 (0, 0)))).2.2.2.1, (hq.out _ (below_alloc (below_alloc (Below.refl w7.heap.size w7).drew (.cells #[.int .u64 0, .string ⟨#[]⟩, .int .u64 0, .string ⟨#[]⟩, .slice none 0 0] 29 (0, 0))) (.cells #[.int .u64 0, .string ⟨#[]⟩, .int .u64 0, .string ⟨#[]⟩, .slice none 0 0] 29 (0, 0)))).2.2.2.2⟩, (alloc2 w7.drew (.cells #[.int .u64 0, .string ⟨#[]⟩, .int .u64 0, .string ⟨#[]⟩, .slice none 0 0] 29 (0, 0)) (.cells #[.int .u64 0, .string ⟨#[]⟩, .int .u64 0, .string ⟨#[]⟩, .slice none 0 0] 29 (0, 0))).2.1, (alloc2 w7.drew (.cells #[.int .u64 0, .string ⟨#[]⟩, .int .u64 0, .string ⟨#[]⟩, .slice none 0 0] 29 (0, 0)) (.cells #[.int .u64 0, .string ⟨#[]⟩, .int .u64 0, .string ⟨#[]⟩, .slice none 0 0] 29 (0, 0))).1, (Nat.ne_of_lt (Nat.lt_succ_self _)).symm, Nat.le_succ _, Nat.le_refl _, (below_alloc (below_alloc (Below.refl w7.heap.size w7).drew (.cells #[.int .u64 0, .string ⟨#[]⟩, .int .u64 0, .string ⟨#[]⟩, .slice none 0 0] 29 (0, 0))) (.cells #[.int .u64 0, .string ⟨#[]⟩, .int .u64 0, .string ⟨#[]⟩, .slice none 0 0] 29 (0, 0)))⟩)
    rintro ⟨g, g'⟩ w8 ⟨hs8, hf12, hf13, hne, hge, hge', hbc⟩
    have hHeld : w8.cell? (ad.add (i * 5)) = some (.int .u64 x.f0) ∧ w8.cell? ⟨(ad.add (i * 5)).block, (ad.add (i * 5)).off + 1, none⟩ = some (.string x.f1) ∧ w8.cell? ⟨(ad.add (i * 5)).block, (ad.add (i * 5)).off + 2, none⟩ = some (.int .u64 x.f2.f0) ∧ w8.cell? ⟨(ad.add (i * 5)).block, (ad.add (i * 5)).off + 3, none⟩ = some (.string x.f2.f1) ∧ w8.cell? ⟨(ad.add (i * 5)).block, (ad.add (i * 5)).off + 4, none⟩ = some (.slice A4 x.f3.length c4) := hs8
    refine norm_ (a' := ?_) ?_ ?_
    rotate_left
    · simp only [putAll, Act.put, List.setIfInBounds_toArray, List.set_cons_zero, List.set_cons_succ]
      rfl
    refine one_ (i := 10) (N := none) #[true, true, true, true, true, true, true, true, true, true, true, false] rfl rfl (by kernel_rfl) (by decide) (fun K hK => ?_)
    refine skip_storeBox (by rfl) rfl 29 (.tmp 12) (.tmp 69) rfl (.agg #[.int .u64 x.f0, .string x.f1, .int .u64 x.f2.f0, .string x.f2.f1, .slice A4 x.f3.length c4]) [.int .u64 x.f0, .string x.f1, .int .u64 x.f2.f0, .string x.f2.f1, .slice A4 x.f3.length c4] rfl rfl rfl (by kernel_rfl) (by simp [Value.oneCell']) hf12 rfl ?_
    intro w9 hK12 hg9 hg9s
    have hf13 := (hg9.block _ (blk_lt hf13) (fun e => hne (Option.some.inj e).symm)).trans hf13
    have hbc := pw_below_grown hbc _ hbc.size hg9 (fun k hk => by cases hk; exact hge)
    refine hK.out _ _ ⟨(hq.out _ hbc).1, (hq.out _ hbc).2.1, (hq.out _ hbc).2.2.1, (hq.out _ hbc).2.2.2.1, (hq.out _ hbc).2.2.2.2⟩ (fun hHeld => ?_)
    clear hK K
    refine one_ (i := 11) (N := none) #[true, true, true, true, true, true, true, true, true, true, true, true] rfl rfl (by kernel_rfl) (by decide) (fun K hK => ?_)
    refine skip_storeBox (by rfl) rfl 29 (.tmp 13) (.tmp 73) rfl (.agg #[.int .u64 x.f0, .string x.f1, .int .u64 x.f2.f0, .string x.f2.f1, .slice A4 x.f3.length c4]) [.int .u64 x.f0, .string x.f1, .int .u64 x.f2.f0, .string x.f2.f1, .slice A4 x.f3.length c4] rfl rfl rfl (by kernel_rfl) (by simp [Value.oneCell']) hf13 rfl ?_
    intro w10 hK13 hg10 hg10s
    have hK12 := (hg10.block _ (blk_lt hK12) (fun e => hne (Option.some.inj e))).trans hK12
    have hbc := pw_below_grown hbc _ hbc.size hg10 (fun k hk => by cases hk; exact hge')
    refine hK.out _ _ ⟨(hq.out _ hbc).1, (hq.out _ hbc).2.1, (hq.out _ hbc).2.2.1, (hq.out _ hbc).2.2.2.1, (hq.out _ hbc).2.2.2.2⟩ (fun hHeld => ?_)
    clear hK K
    refine done_ (by kernel_rfl) ?_
    have z12 : w10.cell? ⟨g, 4, none⟩ = some (.slice A4 x.f3.length c4) := (blk_cell hK12 4).trans rfl
    have z13 : w10.cell? ⟨g', 4, none⟩ = some (.slice A4 x.f3.length c4) := (blk_cell hK13 4).trans rfl
    have f12 := blk_frozen hK12 4
    have f13 := blk_frozen hK13 4
    clear hs8 hHeld hf12 hf13 hg9 hg10
    go_wp2
    refine start_ (n := 10) (S := fun w' => w'.cell? ⟨g, 4, none⟩ = some (.slice A4 x.f3.length c4) ∧ w'.cell? ⟨g', 4, none⟩ = some (.slice A4 x.f3.length c4)) (ds := [7, 9]) #[false, false, false, false, false, false, false, false, false, false] (by kernel_rfl) rfl rfl ⟨z12, z13⟩ (fun hHeld => ?_)
    refine pure_ (i := 0) (N := some 74) (v := ?_) (a' := ?_) #[true, false, false, false, false, false, false, false, false, false] rfl rfl (by kernel_rfl) (fun _ _ _ h => h) (Or.inl ⟨by rfl, ?_⟩) ?_ ?_
    rotate_left
    · intro w'
      go_simp
      with_reducible rfl
    rotate_left
    · simp only [Act.put, List.setIfInBounds_toArray, List.set_cons_zero, List.set_cons_succ, i64_w, i32_w]
      rfl
    refine pure_ (i := 3) (N := some 77) (v := ?_) (a' := ?_) #[true, false, false, true, false, false, false, false, false, false] rfl rfl (by kernel_rfl) (fun _ _ _ h => h) (Or.inl ⟨by rfl, ?_⟩) ?_ ?_
    rotate_left
    · intro w'
      go_simp
      with_reducible rfl
    rotate_left
    · simp only [Act.put, List.setIfInBounds_toArray, List.set_cons_zero, List.set_cons_succ, i64_w, i32_w]
      rfl
    refine take_ (i := 1) (N := some 75) (v := ?_) (a' := ?_) #[true, true, false, true, false, false, false, false, false, false] rfl rfl (by kernel_rfl) (fun _ _ _ h => h) (Or.inl ⟨by rfl, ?_⟩) hHeld ?_ ?_
    rotate_left
    · rintro w' ⟨s0, s1⟩
      go_simp
      with_reducible rfl
    rotate_left
    · simp only [Act.put, List.setIfInBounds_toArray, List.set_cons_zero, List.set_cons_succ, i64_w, i32_w]
      rfl
    refine take_ (i := 4) (N := some 78) (v := ?_) (a' := ?_) #[true, true, false, true, true, false, false, false, false, false] rfl rfl (by kernel_rfl) (fun _ _ _ h => h) (Or.inl ⟨by rfl, ?_⟩) hHeld ?_ ?_
    rotate_left
    · rintro w' ⟨s0, s1⟩
      go_simp
      with_reducible rfl
    rotate_left
    · simp only [Act.put, List.setIfInBounds_toArray, List.set_cons_zero, List.set_cons_succ, i64_w, i32_w]
      rfl
    refine one_ (i := 2) (N := some 76) #[true, true, true, true, true, false, false, false, false, false] rfl rfl (by kernel_rfl) (by decide) (fun K hK => ?_)
    refine goes_ Try.func15 (by kernel_rfl) rfl #[.slice A4 x.f3.length c4, .int .i64 1] (by rfl) rfl rfl (by simp only [List.map_toArray, List.map_cons, List.map_nil]; rfl) ?_
    with_reducible refine (first_own A4 c4 x.f3 n _ hn.out hc4).mono ?_
    rintro e wq ⟨rfl, rfl⟩
    refine ⟨_, rfl, ?_⟩
    refine hK.out _ _ ⟨z12, z13⟩ (fun hHeld => ?_)
    clear hK K
    refine norm_ (a' := ?_) ?_ ?_
    rotate_left
    · show Act.put _ (some 76) _ = _
      simp only [Act.put, List.setIfInBounds_toArray, List.set_cons_zero, List.set_cons_succ, i64_w, i32_w]
      rfl
    refine pure_ (i := 6) (N := some 80) (v := ?_) (a' := ?_) #[true, true, true, true, true, false, true, false, false, false] rfl rfl (by kernel_rfl) (fun _ _ _ h => h) (Or.inl ⟨by rfl, ?_⟩) ?_ ?_
    rotate_left
    · intro w'
      go_simp
      with_reducible rfl
    rotate_left
    · simp only [Act.put, List.setIfInBounds_toArray, List.set_cons_zero, List.set_cons_succ, i64_w, i32_w]
      rfl
    refine one_ (i := 5) (N := some 79) #[true, true, true, true, true, true, true, false, false, false] rfl rfl (by kernel_rfl) (by decide) (fun K hK => ?_)
    refine goes_ Try.func16 (by kernel_rfl) rfl #[.slice A4 x.f3.length c4] (by rfl) rfl rfl (by simp only [List.map_toArray, List.map_cons, List.map_nil]; rfl) ?_
    with_reducible refine (hrest.out _).mono ?_
    rintro e wq ⟨rfl, rfl⟩
    refine ⟨_, rfl, ?_⟩
    refine hK.out _ _ ⟨z12, z13⟩ (fun hHeld => ?_)
    clear hK K
    refine norm_ (a' := ?_) ?_ ?_
    rotate_left
    · show Act.put _ (some 79) _ = _
      simp only [Act.put, List.setIfInBounds_toArray, List.set_cons_zero, List.set_cons_succ, i64_w, i32_w]
      rfl
    refine last_ (i := 7) (N := none) #[true, true, true, true, true, true, true, true, false, false] rfl rfl (by kernel_rfl) (by decide) (fun K hK => ?_)
    refine skip_ (w1 := ?_) (by rfl) rfl ?_ ?_
    rotate_left
    · go_simp
      rfl
    refine hK.out _ _ ?_
    clear hK K
    refine pure_ (i := 8) (N := some 81) (v := ?_) (a' := ?_) #[true, true, true, true, true, true, true, true, true, false] rfl rfl (by kernel_rfl) (fun _ _ _ h => h) (Or.inl ⟨by rfl, ?_⟩) ?_ ?_
    rotate_left
    · intro w'
      go_simp
      with_reducible rfl
    rotate_left
    · simp only [Act.put, List.setIfInBounds_toArray, List.set_cons_zero, List.set_cons_succ, i64_w, i32_w]
      rfl
    refine last_ (i := 9) (N := none) #[true, true, true, true, true, true, true, true, true, true] rfl rfl (by kernel_rfl) (by decide) (fun K hK => ?_)
    refine skip_ (w1 := ?_) (by rfl) rfl ?_ ?_
    rotate_left
    · go_simp
      rfl
    refine hK.out _ _ ?_
    clear hK K
    refine done_ (by kernel_rfl) ?_
    have hne' : g' ≠ g := fun e => hne e.symm
    have k12 := blk_far (blk_put hK12 4 (.slice A4 n c4) rfl) (p := ⟨g', 4, none⟩) hne (.slice B2 m c2)
    have k13 := blk_put (blk_far hK13 (p := ⟨g, 4, none⟩) hne' (.slice A4 n c4)) 4 (.slice B2 m c2) rfl
    have hb11 := hbc.grown (set_grown w10 ⟨g, 4, none⟩ (.slice A4 n c4)) hbc.size (fun k hk => by cases hk; exact hge)
    replace hb11 := hb11.grown (set_grown _ ⟨g', 4, none⟩ (.slice B2 m c2)) hb11.size (fun k hk => by cases hk; exact hge')
    replace hb11 := below_drew hb11
    obtain ⟨w11, hw11⟩ : ∃ w11, ((w10.setCell ⟨g, 4, none⟩ (.slice A4 n c4)).setCell ⟨g', 4, none⟩ (.slice B2 m c2)).drew = w11 := ⟨_, rfl⟩
    rw [hw11] at hb11 ⊢
    have hK12 : w11.heap[g]? = some (.cells #[.int .u64 x.f0, .string x.f1, .int .u64 x.f2.f0, .string x.f2.f1, .slice A4 n c4] 29 (0, 0)) := by rw [← hw11]; exact k12
    have hK13 : w11.heap[g']? = some (.cells #[.int .u64 x.f0, .string x.f1, .int .u64 x.f2.f0, .string x.f2.f1, .slice B2 m c2] 29 (0, 0)) := by rw [← hw11]; exact k13
    clear hw11 k12 k13 z12 z13 f12 f13 hHeld hbc
    have hxm : x ∈ l := hx.out ▸ rd29_mem l i hi
    have hx22 : x.f3.length ≤ 22 := hl22.out x hxm
    have ht1n : t1.length = n := ht1.out ▸ hn.out
    have ht1' : t1.length ≤ 22 := by rw [← ht1.out, List.length_take]; omega
    have hCt : k26.C w7 A4 n t1 := by
      rw [← hn.out, ← ht1.out]
      rcases Nat.eq_zero_or_pos x.f3.length with h | h
      · rw [List.take_of_length_le (by omega)]; exact hC4.out
      · exact Kd.C_take hC4.out (m := 1) (by omega)
    replace hxm := Lib.hid hxm
    replace hCt := Aside0.mk hCt
    replace ht1n := Lib.hid ht1n
    go_wp2_with fail
    refine (alive_calls w11).mono ?_; rintro e_ w12 ⟨rfl, hb12⟩
    have hB12 := below_step hb11 hb12
    obtain ⟨y0, y1, y2, y3, y4⟩ := box5 ((hB12.block _ (blk_lt hK7.out)).trans hK7.out)
    obtain ⟨u0, u1, u2, u3, u4⟩ := box5 ((hb12.block _ (blk_lt hK12)).trans hK12)
    obtain ⟨_, _, _, _, q4⟩ := hq.out _ hB12
    have hone := demurralref15_One.calls 2000 x.f0 x.f1 x.f2.f0 x.f2.f1 B cB t1 x.f0 x.f1 x.f2.f0 x.f2.f1 A4 c4 t1 true w12 (by rw [ht1n.out]; exact Kd.C_below hCB.out (below_step hB7 hB12)) (by rw [ht1n.out]; exact hcB) (by rw [ht1n.out]; exact Kd.C_below hCt.out hB12) (by rw [ht1n.out, ← hn.out, List.length_take]; omega) (by
      rw [← oneB_refl { x with f3 := t1 }]
      exact one_f { x with f3 := t1 } { x with f3 := t1 } (by show t1.length ≤ 1000; omega) 2000 (by omega))
    rw [ht1n.out] at hone
    replace hone := Aside0.mk hone
    go_wp2_with fail
    refine hone.out.mono ?_; rintro e_ w13 ⟨rfl, hb13⟩
    have hB13 := below_step hB12 hb13
    clear hone y0 y1 y2 y3 y4 u0 u1 u2 u3 u4 q4
    obtain ⟨u0, u1, u2, u3, u4⟩ := box5 (((below_step hb12 hb13).block _ (blk_lt hK13)).trans hK13)
    have hwc := demurralref15_With.calls 2000 _ (some ad) c l x.f0 x.f1 x.f2.f0 x.f2.f1 _ B2 c2 (x.f3.drop 1) _ w13 (Kd.V_mk hcc (Kd.C_F k29_heap (Kd.C_below hC2.out (below_step hB7 hB13)))) (Kd.V_mk (by rw [hm.out]; exact hc2) (Kd.C_F k26_heap (by rw [hm.out]; exact hC2r.out _ (Kd.C_below hC4.out hB13)))) hW.out
    rw [hm.out] at hwc
    replace hwc := Aside0.mk hwc
    go_wp2_with fail
    refine hwc.out.mono ?_; rintro e_ w14 ⟨v0, rfl, hN, hb14⟩
    obtain ⟨A9, c9, rfl, hc9, hC9⟩ := Kd.N_reads hN
    have hB14 := below_step hB13 hb14
    have hlen : (l.set i { x with f3 := x.f3.drop 1 }).length = l.length := List.length_set
    have hsame := demurralref15_Same.calls 2000 A' c' (l.set i { x with f3 := x.f3.drop 1 }) A9 c9 (l.set i { x with f3 := x.f3.drop 1 }) true w14 (by rw [hlen]; exact Kd.C_below hC.out (below_step hB7 hB14)) (by rw [hlen]; exact hcc') hC9 hc9 (by
      rw [← sameB_refl (l.set i { x with f3 := x.f3.drop 1 })]
      refine same_f _ _ (by rw [hlen]; omega) (fun s hs => ?_)
      rcases List.mem_or_eq_of_mem_set hs with h | rfl
      · have := hl22.out s h; omega
      · show (x.f3.drop 1).length ≤ 1000
        rw [List.length_drop]; omega)
    rw [hlen] at hsame hN
    replace hsame := Aside0.mk hsame
    replace hlen := Lib.hid hlen
    clear hwc hN hC9 u0 u1 u2 u3 u4
    go_wp2_with fail
    refine hsame.out.mono ?_; rintro e_ w15 ⟨rfl, hb15⟩
    have hB15 := below_step hB2 (below_step hB7 (below_step hB14 hb15))
    go_wp2
    go_ret
    exact ⟨rfl, hB15⟩
end Go.Proofs.Ytkomcddnfjbifaa.Q
