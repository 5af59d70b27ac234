/- demurraltop's TopDenies: a first text that was made alone can't be told apart by who is asked. -/
import Derived.Test.YtenmmeehgnkcpaaHStep
import Derived.Test.YtenmmeehgnkcpaaHDeny
import Derived.Test.YtenmmeehgnkcpaaHMake
namespace Go.Proofs.Ytenmmeehgnkcpaa.Q
open Go.RowKit Go.Proofs.YtenmmeehgnkcpaaW.PrintWords Go.Proofs.YtenmmeehgnkcpaaW.PrintLast Go.Proofs.YtenmmeehgnkcpaaW.PrintMore
set_option linter.unusedVariables false
set_option linter.unusedSimpArgs false

theorem CI_pre {W : World} {A : Option Addr} {n : Nat} {xs : List Int} (h : (Kd.int .i64).C W A n xs) (k : Nat) (hk : k ≤ n) : (Kd.int .i64).C W A k (xs.take k) := by
  refine ⟨by rw [List.length_take, h.1]; exact Nat.min_eq_left hk, Nat.le_trans hk h.2.1, fun hp => ?_⟩
  obtain ⟨ad, e, hc⟩ := h.2.2 (by omega)
  refine ⟨ad, e, fun j p hj => hc j p ?_⟩
  have hjk : j < k := by
    have := (List.getElem?_eq_some_iff.1 hj).1
    rw [List.length_take] at this
    omega
  rw [List.getElem?_take, if_pos hjk] at hj
  exact hj
set_option maxHeartbeats 4000000 in
set_option maxRecDepth 100000 in
theorem denies_walk (a0 a1 : Int) (w : World) (g0 : (Lit.int .u64 a0).wf = true) (g1 : (Lit.int .i64 a1).wf = true) :
    Calls Try.prog 3 #[.int .u64 a0, .int .i64 a1] w fun e w' => e = .returned (.bool true) ∧ Below w.heap.size w w' := by
  have ha0 : 0 ≤ a0 := by simp [Lit.wf] at g0; have e1 : IntKind.u64.min = 0 := rfl; omega
  obtain ⟨f, hf⟩ : ∃ f, Int.tmod a0 1152921504606846976 = f := ⟨_, rfl⟩
  have hf0 : 0 ≤ f := by rw [← hf]; exact Int.tmod_nonneg _ ha0
  have hf1 : f < 1152921504606846976 := by rw [← hf]; exact Int.tmod_lt_of_pos _ (by decide)
  obtain ⟨q, hq⟩ : ∃ q, Int.tmod a1 4 = q := ⟨_, rfl⟩
  have hq1 : q < 4 := by rw [← hq]; exact Int.tmod_lt_of_pos _ (by decide)
  have hq0 : -4 < q := by rw [← hq]; have := Int.lt_tmod_of_pos a1 (show (0 : Int) < 4 by decide); omega
  obtain ⟨r, hr⟩ : ∃ r, Int.tmod (q + 4) 4 = r := ⟨_, rfl⟩
  have hr1 : r < 4 := by rw [← hr]; exact Int.tmod_lt_of_pos _ (by decide)
  have hr0 : 0 ≤ r := by rw [← hr]; exact Int.tmod_nonneg _ (by omega)
  have hwq : wrap64 (q + 4) = q + 4 := wrap_in' _ (by omega) (by omega)
  have hwr : wrap64 (2 + r) = 2 + r := wrap_in' _ (by omega) (by omega)
  have hw20 : IntKind.u64.wrap (f + 20) = f + 20 := by rw [IntKind.wrap_u64]; omega
  have hw21 : IntKind.u64.wrap (f + 21) = f + 21 := by rw [IntKind.wrap_u64]; omega
  have hhello := Aside0.mk (hello_calls f hf0 hf1 w)
  go_enter Try.func3, Try.ntmps3
  go_wp2_with fail
  refine hhello.out.mono ?_; rintro e_ w1 ⟨⟨A, c, rfl, hc, hC⟩, hb1⟩
  obtain ⟨w2, hw2⟩ : ∃ w2, w1.alloc (.cells #[.slice none 0 0] 23 (0, 0)) = w2 := ⟨_, rfl⟩
  have hb2 : Below w1.heap.size w1 w2 := by rw [← hw2]; exact below_alloc (Below.refl _ _) _
  have hK2 : w2.heap[w1.heap.size]? = some (.cells #[.slice none 0 0] 23 (0, 0)) := by rw [← hw2]; exact heap_alloc_new _ _
  clear hhello
  have hal := Aside0.mk (fun W => topalive_calls W)
  go_wp2_with ((with_reducible refine gate_store (t := 23) (p := 5) rfl ?_); go_loud (refine wpList_storeBox rfl rfl 23 (.tmp 5) (.tmp 30) rfl (.slice A 17 c) [.slice A 17 c] rfl rfl rfl (by kernel_rfl) (by simp [Value.oneCell']) hK2 rfl ?_); intro w3 hK3 hg3 hs3)
  refine (hal.out _).mono ?_; rintro e_ w4 ⟨rfl, hb4⟩
  have hle : w.heap.size ≤ w1.heap.size := hb1.size
  have hD : Aside0 (DB f 17 w1.heap.size w4) := Aside0.mk ⟨A, c, (hb4.block _ (blk_lt hK3)).trans hK3, hc, by rw [deny_hello]; exact Kd.C_below (C28_put (Kd.C_below hC hb2) hK2 (by intro k z h; cases h) hg3) hb4⟩
  have hB : Aside0 (Below w.heap.size w w4) := Aside0.mk (below_step ((hb1.trans (hb2.mono hle)).grown hg3 (Nat.le_trans hle hb2.size) (fun k hk => by injection hk; omega)) hb4)
  have hst : Hid (∀ (k : Nat) (i : Int) (u : S28) (W : World), k < 27 → (k : Int) = i → turnT u = rd_T28 (denyT f) i → DB f k w1.heap.size W → Calls Try.prog 13 #[tv u, .pointer (some ⟨w1.heap.size, 0, none⟩)] W fun e w' => e = .returned (.int .i64 i) ∧ DB f (k + 1) w1.heap.size w' ∧ Below w.heap.size W w') :=
    Lib.hid fun k i u W hk hi hu hD => by subst hi; exact deny_step f hf0 hf1 k w1.heap.size u hk hu W w.heap.size hle hD
  clear hal hb4 hK3 hg3 hs3 hK2 hb2 hb1 hC hc hw2
  have hc := Aside0.mk (hst.out 17 17 ⟨0, f + 20, 0, 0⟩ w4 (by decide) rfl rfl hD.out)
  go_wp2_with fail
  refine hc.out.mono ?_; rintro e_ v17 ⟨rfl, hq_, hb_⟩
  replace hD : Aside0 (DB f 18 w1.heap.size v17) := Aside0.mk hq_
  replace hB := Aside0.mk (hB.out.trans hb_)
  clear hc hq_ hb_
  have hc := Aside0.mk (hst.out 18 18 ⟨0, f + 21, 0, 0⟩ v17 (by decide) rfl rfl hD.out)
  go_wp2_with fail
  refine hc.out.mono ?_; rintro e_ v18 ⟨rfl, hq_, hb_⟩
  replace hD : Aside0 (DB f 19 w1.heap.size v18) := Aside0.mk hq_
  replace hB := Aside0.mk (hB.out.trans hb_)
  clear hc hq_ hb_
  have hc := Aside0.mk (hst.out 19 19 ⟨1, 0, 17, 0⟩ v18 (by decide) rfl rfl hD.out)
  go_wp2_with fail
  refine hc.out.mono ?_; rintro e_ v19 ⟨rfl, hq_, hb_⟩
  replace hD : Aside0 (DB f 20 w1.heap.size v19) := Aside0.mk hq_
  replace hB := Aside0.mk (hB.out.trans hb_)
  clear hc hq_ hb_
  have hc := Aside0.mk (hst.out 20 20 ⟨2, 0, 17, 2⟩ v19 (by decide) rfl rfl hD.out)
  go_wp2_with fail
  refine hc.out.mono ?_; rintro e_ v20 ⟨rfl, hq_, hb_⟩
  replace hD : Aside0 (DB f 21 w1.heap.size v20) := Aside0.mk hq_
  replace hB := Aside0.mk (hB.out.trans hb_)
  clear hc hq_ hb_
  have hc := Aside0.mk (hst.out 21 21 ⟨2, 0, 17, 3⟩ v20 (by decide) rfl rfl hD.out)
  go_wp2_with fail
  refine hc.out.mono ?_; rintro e_ v21 ⟨rfl, hq_, hb_⟩
  replace hD : Aside0 (DB f 22 w1.heap.size v21) := Aside0.mk hq_
  replace hB := Aside0.mk (hB.out.trans hb_)
  clear hc hq_ hb_
  have hc := Aside0.mk (hst.out 22 22 ⟨4, 0, 8, 20⟩ v21 (by decide) rfl rfl hD.out)
  go_wp2_with fail
  refine hc.out.mono ?_; rintro e_ v22 ⟨rfl, hq_, hb_⟩
  replace hD : Aside0 (DB f 23 w1.heap.size v22) := Aside0.mk hq_
  replace hB := Aside0.mk (hB.out.trans hb_)
  clear hc hq_ hb_
  have hc := Aside0.mk (hst.out 23 23 ⟨4, 0, 22, 21⟩ v22 (by decide) rfl rfl hD.out)
  go_wp2_with fail
  refine hc.out.mono ?_; rintro e_ v23 ⟨rfl, hq_, hb_⟩
  replace hD : Aside0 (DB f 24 w1.heap.size v23) := Aside0.mk hq_
  replace hB := Aside0.mk (hB.out.trans hb_)
  clear hc hq_ hb_
  have hc := Aside0.mk (hst.out 24 24 ⟨3, 0, 23, 0⟩ v23 (by decide) rfl rfl hD.out)
  go_wp2_with fail
  refine hc.out.mono ?_; rintro e_ v24 ⟨rfl, hq_, hb_⟩
  replace hD : Aside0 (DB f 25 w1.heap.size v24) := Aside0.mk hq_
  replace hB := Aside0.mk (hB.out.trans hb_)
  clear hc hq_ hb_
  have hc := Aside0.mk (hst.out 25 25 ⟨5, 0, 24, 18⟩ v24 (by decide) rfl rfl hD.out)
  go_wp2_with fail
  refine hc.out.mono ?_; rintro e_ v25 ⟨rfl, hq_, hb_⟩
  replace hD : Aside0 (DB f 26 w1.heap.size v25) := Aside0.mk hq_
  replace hB := Aside0.mk (hB.out.trans hb_)
  clear hc hq_ hb_
  have hc := Aside0.mk (hst.out 26 26 ⟨6, 0, 24, 25⟩ v25 (by decide) rfl rfl hD.out)
  go_wp2_with fail
  refine hc.out.mono ?_; rintro e_ v26 ⟨rfl, hq_, hb_⟩
  replace hD : Aside0 (DB f 27 w1.heap.size v26) := Aside0.mk hq_
  replace hB := Aside0.mk (hB.out.trans hb_)
  clear hc hq_ hb_
  clear hst
  go_wp2_with fail
  obtain ⟨A', c', hbox, hc', hC⟩ := hD.out
  rw [deny_full] at hC
  have hst : Hid (∀ (W : World) (K L : Option Addr) (n m k j : Nat) (xs ys : List Int) (b : Bool), Below v26.heap.size v26 W → (Kd.int .i64).C W K n xs → (Kd.int .i64).C W L m ys → n = xs.length → m = ys.length → n ≤ k → m ≤ j → k ≤ 5 → j ≤ 5 → staticR (denyT f) xs ys = (b, 0) →
      Calls Try.prog 15 #[.slice A' 27 c', .slice K n k, .slice L m j] W fun e w' => e = .returned (.tuple #[.bool b, .int .i64 0]) ∧ Below W.heap.size W w') := Lib.hid fun W K L n m k j xs ys b hW hK hL hn hm hnk hmj hk hj hs => by
    subst hn hm
    have := static_calls A' c' (denyT f) K k xs L j ys W (Kd.C_below hC hW) hc' (Nat.le_of_ble_eq_true rfl) (fun t ht => deny_wf f hf0 hf1 27 t (by rw [deny_full]; exact ht)) hK hnk (by omega) hL hmj (by omega)
    rw [hs] at this
    exact this
  have hst2 : Hid (∀ (W : World) (k : Nat) (xs ys : List Int) (b : Bool), Below v26.heap.size v26 W → k = xs.length → k = ys.length → k ≤ 5 → staticR (denyT f) xs ys = (b, 0) →
      Calls Try.prog 15 #[.slice A' 27 c', .slice (some ⟨W.heap.size, 0, none⟩) k k, .slice (some ⟨W.heap.size + 1, 0, none⟩) k k] ((W.alloc (.cells (xs.map (Value.int .i64)).toArray 3 (0, 0))).alloc (.cells (ys.map (Value.int .i64)).toArray 3 (0, 0))) fun e w' => e = .returned (.tuple #[.bool b, .int .i64 0]) ∧ Below W.heap.size W w') := Lib.hid fun W k xs ys b hW hx hy hk hs => by
    obtain ⟨h1, h2⟩ := two_new W (.cells (xs.map (Value.int .i64)).toArray 3 (0, 0)) (.cells (ys.map (Value.int .i64)).toArray 3 (0, 0))
    have hbb : Below W.heap.size W ((W.alloc (.cells (xs.map (Value.int .i64)).toArray 3 (0, 0))).alloc (.cells (ys.map (Value.int .i64)).toArray 3 (0, 0))) := below_alloc (below_alloc (Below.refl _ _) _) _
    exact (hst.out _ _ _ k k k k xs ys b (below_step hW hbb) (by rw [hx]; exact rowI_C h1 (by omega)) (by rw [hy]; exact rowI_C h2 (by omega)) hx hy (Nat.le_refl _) (Nat.le_refl _) hk hk hs).mono fun e w' ⟨h, hb⟩ => ⟨h, below_step hbb hb⟩
  have hbx := Aside0.mk hbox
  clear hD hbox hC
  obtain ⟨n, hn⟩ : ∃ n : Nat, 2 + r = (n : Int) := ⟨(2 + r).toNat, by omega⟩
  have hn4 : n = 2 ∨ n = 3 ∨ n = 4 ∨ n = 5 := by omega
  rw [hn]
  clear hwr hwq hr hq hw20 hw21 hf
  rcases hn4 with rfl | rfl | rfl | rfl
  · skip
    refine start_ (n := 10) (S := fun w' => True) (ds := []) #[false, false, false, false, false, false, false, false, false, false] (by kernel_rfl) rfl rfl trivial (fun hHeld => ?_)
    refine p_ 1 (some 91) #[false, true, false, false, false, false, false, false, false, false] ?_
    refine p_ 3 (some 93) #[false, true, false, true, false, false, false, false, false, false] ?_
    refine p_ 4 (some 94) #[false, true, false, true, true, false, false, false, false, false] ?_
    refine p_ 6 (some 96) #[false, true, false, true, true, false, true, false, false, false] ?_
    refine join_ (σ := Nat × Nat) 1 #[true, true, true, true, true, true, true, true, true, false] (fun s_ => [(90, .slice (some ⟨s_.1, 0, none⟩) 5 5), (92, .slice (some ⟨s_.1, 0, none⟩) 2 5), (95, .slice (some ⟨s_.2, 0, none⟩) 5 5), (97, .slice (some ⟨s_.2, 0, none⟩) 2 5), (18, .slice (some ⟨s_.1, 0, none⟩) 2 5)]) (fun s_ w' => w'.heap[s_.1]? = some (.cells #[.int .i64 2, .int .i64 3, .int .i64 4, .int .i64 5, .int .i64 15] 3 (0, 0)) ∧ w'.heap[s_.2]? = some (.cells #[.int .i64 2, .int .i64 3, .int .i64 4, .int .i64 19, .int .i64 25] 3 (0, 0)) ∧ Below v26.heap.size v26 w') ?_ ?_
    rotate_left
    · intro hCont
      refine two_ (i := 0) (j := 5) (Ni := some 90) (Nj := some 95) #[true, true, false, true, true, false, true, false, false, false] #[false, true, false, true, true, true, true, false, false, false] rfl rfl rfl rfl (by kernel_rfl) (by decide) (by decide) (fun K hK => ?_) (fun K hK => ?_)
      · skip
        refine value_ (w1 := ?_) (v := ?_) (by rfl) rfl ?_ ?_
        rotate_left 2
        · go_simp
          constructor
          · rfl
          · rfl
        have hPa := heap_alloc_new v26.drew (.cells #[.int .i64 2, .int .i64 3, .int .i64 4, .int .i64 5, .int .i64 15] 3 (0, 0))
        have hbp := below_alloc (Below.refl v26.heap.size v26).drew (.cells #[.int .i64 2, .int .i64 3, .int .i64 4, .int .i64 5, .int .i64 15] 3 (0, 0))
        refine hK.out _ _ trivial (fun hHeld => ?_)
        clear hK K
        refine norm_ (a' := ?_) ?_ ?_
        rotate_left
        · show Act.put _ (some 90) _ = _
          simp only [Act.put, List.setIfInBounds_toArray, List.set_cons_zero, List.set_cons_succ, i64_w, i32_w]
          rfl
        refine p_ 2 (some 92) #[true, true, true, true, true, false, true, false, false, false] ?_
        refine p_ 8 (some 18) #[true, true, true, true, true, false, true, false, true, false] ?_
        refine one_ (i := 5) (N := some 95) #[true, true, true, true, true, true, true, false, true, false] rfl rfl (by kernel_rfl) (by decide) (fun K hK => ?_)
        refine value_ (w1 := ?_) (v := ?_) (by rfl) rfl ?_ ?_
        rotate_left 2
        · go_simp
          constructor
          · rfl
          · rfl
        have hPb := heap_alloc_new (v26.drew.alloc (.cells #[.int .i64 2, .int .i64 3, .int .i64 4, .int .i64 5, .int .i64 15] 3 (0, 0))) (.cells #[.int .i64 2, .int .i64 3, .int .i64 4, .int .i64 19, .int .i64 25] 3 (0, 0))
        rw [World.size_alloc] at hPb
        replace hPa := ((below_alloc (Below.refl _ _) (.cells #[.int .i64 2, .int .i64 3, .int .i64 4, .int .i64 19, .int .i64 25] 3 (0, 0))).block _ (blk_lt hPa)).trans hPa
        replace hbp := below_alloc hbp (.cells #[.int .i64 2, .int .i64 3, .int .i64 4, .int .i64 19, .int .i64 25] 3 (0, 0))
        refine hK.out _ _ trivial (fun hHeld => ?_)
        clear hK K
        refine norm_ (a' := ?_) ?_ ?_
        rotate_left
        · show Act.put _ (some 95) _ = _
          simp only [Act.put, List.setIfInBounds_toArray, List.set_cons_zero, List.set_cons_succ, i64_w, i32_w]
          rfl
        refine p_ 7 (some 97) #[true, true, true, true, true, true, true, true, true, false] ?_
        exact norm_ (by simp only [putAll, Act.put, List.setIfInBounds_toArray, List.set_cons_zero, List.set_cons_succ]) (hCont (v26.heap.size, v26.heap.size + 1) _ ⟨hPa, hPb, hbp⟩)
      · skip
        refine value_ (w1 := ?_) (v := ?_) (by rfl) rfl ?_ ?_
        rotate_left 2
        · go_simp
          constructor
          · rfl
          · rfl
        have hPb := heap_alloc_new v26.drew (.cells #[.int .i64 2, .int .i64 3, .int .i64 4, .int .i64 19, .int .i64 25] 3 (0, 0))
        have hbp := below_alloc (Below.refl v26.heap.size v26).drew (.cells #[.int .i64 2, .int .i64 3, .int .i64 4, .int .i64 19, .int .i64 25] 3 (0, 0))
        refine hK.out _ _ trivial (fun hHeld => ?_)
        clear hK K
        refine norm_ (a' := ?_) ?_ ?_
        rotate_left
        · show Act.put _ (some 95) _ = _
          simp only [Act.put, List.setIfInBounds_toArray, List.set_cons_zero, List.set_cons_succ, i64_w, i32_w]
          rfl
        refine p_ 7 (some 97) #[false, true, false, true, true, true, true, true, false, false] ?_
        refine one_ (i := 0) (N := some 90) #[true, true, false, true, true, true, true, true, false, false] rfl rfl (by kernel_rfl) (by decide) (fun K hK => ?_)
        refine value_ (w1 := ?_) (v := ?_) (by rfl) rfl ?_ ?_
        rotate_left 2
        · go_simp
          constructor
          · rfl
          · rfl
        have hPa := heap_alloc_new (v26.drew.alloc (.cells #[.int .i64 2, .int .i64 3, .int .i64 4, .int .i64 19, .int .i64 25] 3 (0, 0))) (.cells #[.int .i64 2, .int .i64 3, .int .i64 4, .int .i64 5, .int .i64 15] 3 (0, 0))
        rw [World.size_alloc] at hPa
        replace hPb := ((below_alloc (Below.refl _ _) (.cells #[.int .i64 2, .int .i64 3, .int .i64 4, .int .i64 5, .int .i64 15] 3 (0, 0))).block _ (blk_lt hPb)).trans hPb
        replace hbp := below_alloc hbp (.cells #[.int .i64 2, .int .i64 3, .int .i64 4, .int .i64 5, .int .i64 15] 3 (0, 0))
        refine hK.out _ _ trivial (fun hHeld => ?_)
        clear hK K
        refine norm_ (a' := ?_) ?_ ?_
        rotate_left
        · show Act.put _ (some 90) _ = _
          simp only [Act.put, List.setIfInBounds_toArray, List.set_cons_zero, List.set_cons_succ, i64_w, i32_w]
          rfl
        refine p_ 2 (some 92) #[true, true, true, true, true, true, true, true, false, false] ?_
        refine p_ 8 (some 18) #[true, true, true, true, true, true, true, true, true, false] ?_
        exact norm_ (by simp only [putAll, Act.put, List.setIfInBounds_toArray, List.set_cons_zero, List.set_cons_succ]) (hCont (v26.heap.size + 1, v26.heap.size) _ ⟨hPa, hPb, hbp⟩)
    rintro ⟨x_, y_⟩ w13 ⟨hP13, hQ13, hb13⟩
    have hHeld : True := trivial
    dsimp only at hP13 hQ13
    refine norm_ (a' := ?_) ?_ ?_
    rotate_left
    · simp only [putAll, Act.put, List.setIfInBounds_toArray, List.set_cons_zero, List.set_cons_succ]
      rfl
    refine p_ 9 (some 19) #[true, true, true, true, true, true, true, true, true, true] ?_
    refine done_ (by kernel_rfl) ?_
    have hc1 := Aside0.mk (hst.out w13 _ _ 2 2 5 5 _ _ true hb13 (CI_pre (rowI_C (xs := [2, 3, 4, 5, 15]) hP13 (by simp)) 2 (by decide)) (CI_pre (rowI_C (xs := [2, 3, 4, 19, 25]) hQ13 (by simp)) 2 (by decide)) rfl rfl (by decide) (by decide) (by decide) (by decide) (deny_first f 2 (by decide) (by decide)))
    have z13 := box1 ((hb13.block _ (blk_lt hbx.out)).trans hbx.out)
    have hB13 := Aside0.mk (below_step hB.out hb13)
    replace hb13 := Aside0.mk hb13
    clear hst hP13 hQ13 hB
    go_wp2_with fail
    refine hc1.out.mono ?_; rintro e_ w14 ⟨rfl, hb14⟩
    have hV14 := Aside0.mk (below_step hb13.out hb14)
    have hB14 := Aside0.mk (below_step hB13.out hb14)
    have z14 := box1 ((hV14.out.block _ (blk_lt hbx.out)).trans hbx.out)
    have hc2 := hst2.out w14 5 [3, 5, 13, 15, 16] [3, 19, 24, 25, 26] true hV14.out rfl rfl (by decide) (deny_second f)
    simp only [List.map_cons, List.map_nil] at hc2
    replace hc2 := Aside0.mk hc2
    clear hc1 hb14 hB13 hb13 z13
    go_wp2_with fail
    refine hc2.out.mono ?_; rintro e_ w15 ⟨rfl, hb15⟩
    have hV15 := Aside0.mk (below_step hV14.out hb15)
    have hB15 := Aside0.mk (below_step hB14.out hb15)
    have z15 := box1 ((hV15.out.block _ (blk_lt hbx.out)).trans hbx.out)
    have hc3 := hst2.out w15 3 [4, 4, 0] [4, 19, 0] false hV15.out rfl rfl (by decide) (deny_third f)
    simp only [List.map_cons, List.map_nil] at hc3
    replace hc3 := Aside0.mk hc3
    clear hc2 hb15 hB14 hV14 z14 hst2
    go_wp2_with fail
    refine hc3.out.mono ?_; rintro e_ w16 ⟨rfl, hb16⟩
    have hB16 := Aside0.mk (below_step hB15.out hb16)
    clear hc3 hb16 hB15 hV15 z15
    go_wp2
    go_ret
    exact ⟨rfl, hB16.out⟩
  · skip
    refine start_ (n := 10) (S := fun w' => True) (ds := []) #[false, false, false, false, false, false, false, false, false, false] (by kernel_rfl) rfl rfl trivial (fun hHeld => ?_)
    refine p_ 1 (some 91) #[false, true, false, false, false, false, false, false, false, false] ?_
    refine p_ 3 (some 93) #[false, true, false, true, false, false, false, false, false, false] ?_
    refine p_ 4 (some 94) #[false, true, false, true, true, false, false, false, false, false] ?_
    refine p_ 6 (some 96) #[false, true, false, true, true, false, true, false, false, false] ?_
    refine join_ (σ := Nat × Nat) 1 #[true, true, true, true, true, true, true, true, true, false] (fun s_ => [(90, .slice (some ⟨s_.1, 0, none⟩) 5 5), (92, .slice (some ⟨s_.1, 0, none⟩) 3 5), (95, .slice (some ⟨s_.2, 0, none⟩) 5 5), (97, .slice (some ⟨s_.2, 0, none⟩) 3 5), (18, .slice (some ⟨s_.1, 0, none⟩) 3 5)]) (fun s_ w' => w'.heap[s_.1]? = some (.cells #[.int .i64 2, .int .i64 3, .int .i64 4, .int .i64 5, .int .i64 15] 3 (0, 0)) ∧ w'.heap[s_.2]? = some (.cells #[.int .i64 2, .int .i64 3, .int .i64 4, .int .i64 19, .int .i64 25] 3 (0, 0)) ∧ Below v26.heap.size v26 w') ?_ ?_
    rotate_left
    · intro hCont
      refine two_ (i := 0) (j := 5) (Ni := some 90) (Nj := some 95) #[true, true, false, true, true, false, true, false, false, false] #[false, true, false, true, true, true, true, false, false, false] rfl rfl rfl rfl (by kernel_rfl) (by decide) (by decide) (fun K hK => ?_) (fun K hK => ?_)
      · skip
        refine value_ (w1 := ?_) (v := ?_) (by rfl) rfl ?_ ?_
        rotate_left 2
        · go_simp
          constructor
          · rfl
          · rfl
        have hPa := heap_alloc_new v26.drew (.cells #[.int .i64 2, .int .i64 3, .int .i64 4, .int .i64 5, .int .i64 15] 3 (0, 0))
        have hbp := below_alloc (Below.refl v26.heap.size v26).drew (.cells #[.int .i64 2, .int .i64 3, .int .i64 4, .int .i64 5, .int .i64 15] 3 (0, 0))
        refine hK.out _ _ trivial (fun hHeld => ?_)
        clear hK K
        refine norm_ (a' := ?_) ?_ ?_
        rotate_left
        · show Act.put _ (some 90) _ = _
          simp only [Act.put, List.setIfInBounds_toArray, List.set_cons_zero, List.set_cons_succ, i64_w, i32_w]
          rfl
        refine p_ 2 (some 92) #[true, true, true, true, true, false, true, false, false, false] ?_
        refine p_ 8 (some 18) #[true, true, true, true, true, false, true, false, true, false] ?_
        refine one_ (i := 5) (N := some 95) #[true, true, true, true, true, true, true, false, true, false] rfl rfl (by kernel_rfl) (by decide) (fun K hK => ?_)
        refine value_ (w1 := ?_) (v := ?_) (by rfl) rfl ?_ ?_
        rotate_left 2
        · go_simp
          constructor
          · rfl
          · rfl
        have hPb := heap_alloc_new (v26.drew.alloc (.cells #[.int .i64 2, .int .i64 3, .int .i64 4, .int .i64 5, .int .i64 15] 3 (0, 0))) (.cells #[.int .i64 2, .int .i64 3, .int .i64 4, .int .i64 19, .int .i64 25] 3 (0, 0))
        rw [World.size_alloc] at hPb
        replace hPa := ((below_alloc (Below.refl _ _) (.cells #[.int .i64 2, .int .i64 3, .int .i64 4, .int .i64 19, .int .i64 25] 3 (0, 0))).block _ (blk_lt hPa)).trans hPa
        replace hbp := below_alloc hbp (.cells #[.int .i64 2, .int .i64 3, .int .i64 4, .int .i64 19, .int .i64 25] 3 (0, 0))
        refine hK.out _ _ trivial (fun hHeld => ?_)
        clear hK K
        refine norm_ (a' := ?_) ?_ ?_
        rotate_left
        · show Act.put _ (some 95) _ = _
          simp only [Act.put, List.setIfInBounds_toArray, List.set_cons_zero, List.set_cons_succ, i64_w, i32_w]
          rfl
        refine p_ 7 (some 97) #[true, true, true, true, true, true, true, true, true, false] ?_
        exact norm_ (by simp only [putAll, Act.put, List.setIfInBounds_toArray, List.set_cons_zero, List.set_cons_succ]) (hCont (v26.heap.size, v26.heap.size + 1) _ ⟨hPa, hPb, hbp⟩)
      · skip
        refine value_ (w1 := ?_) (v := ?_) (by rfl) rfl ?_ ?_
        rotate_left 2
        · go_simp
          constructor
          · rfl
          · rfl
        have hPb := heap_alloc_new v26.drew (.cells #[.int .i64 2, .int .i64 3, .int .i64 4, .int .i64 19, .int .i64 25] 3 (0, 0))
        have hbp := below_alloc (Below.refl v26.heap.size v26).drew (.cells #[.int .i64 2, .int .i64 3, .int .i64 4, .int .i64 19, .int .i64 25] 3 (0, 0))
        refine hK.out _ _ trivial (fun hHeld => ?_)
        clear hK K
        refine norm_ (a' := ?_) ?_ ?_
        rotate_left
        · show Act.put _ (some 95) _ = _
          simp only [Act.put, List.setIfInBounds_toArray, List.set_cons_zero, List.set_cons_succ, i64_w, i32_w]
          rfl
        refine p_ 7 (some 97) #[false, true, false, true, true, true, true, true, false, false] ?_
        refine one_ (i := 0) (N := some 90) #[true, true, false, true, true, true, true, true, false, false] rfl rfl (by kernel_rfl) (by decide) (fun K hK => ?_)
        refine value_ (w1 := ?_) (v := ?_) (by rfl) rfl ?_ ?_
        rotate_left 2
        · go_simp
          constructor
          · rfl
          · rfl
        have hPa := heap_alloc_new (v26.drew.alloc (.cells #[.int .i64 2, .int .i64 3, .int .i64 4, .int .i64 19, .int .i64 25] 3 (0, 0))) (.cells #[.int .i64 2, .int .i64 3, .int .i64 4, .int .i64 5, .int .i64 15] 3 (0, 0))
        rw [World.size_alloc] at hPa
        replace hPb := ((below_alloc (Below.refl _ _) (.cells #[.int .i64 2, .int .i64 3, .int .i64 4, .int .i64 5, .int .i64 15] 3 (0, 0))).block _ (blk_lt hPb)).trans hPb
        replace hbp := below_alloc hbp (.cells #[.int .i64 2, .int .i64 3, .int .i64 4, .int .i64 5, .int .i64 15] 3 (0, 0))
        refine hK.out _ _ trivial (fun hHeld => ?_)
        clear hK K
        refine norm_ (a' := ?_) ?_ ?_
        rotate_left
        · show Act.put _ (some 90) _ = _
          simp only [Act.put, List.setIfInBounds_toArray, List.set_cons_zero, List.set_cons_succ, i64_w, i32_w]
          rfl
        refine p_ 2 (some 92) #[true, true, true, true, true, true, true, true, false, false] ?_
        refine p_ 8 (some 18) #[true, true, true, true, true, true, true, true, true, false] ?_
        exact norm_ (by simp only [putAll, Act.put, List.setIfInBounds_toArray, List.set_cons_zero, List.set_cons_succ]) (hCont (v26.heap.size + 1, v26.heap.size) _ ⟨hPa, hPb, hbp⟩)
    rintro ⟨x_, y_⟩ w13 ⟨hP13, hQ13, hb13⟩
    have hHeld : True := trivial
    dsimp only at hP13 hQ13
    refine norm_ (a' := ?_) ?_ ?_
    rotate_left
    · simp only [putAll, Act.put, List.setIfInBounds_toArray, List.set_cons_zero, List.set_cons_succ]
      rfl
    refine p_ 9 (some 19) #[true, true, true, true, true, true, true, true, true, true] ?_
    refine done_ (by kernel_rfl) ?_
    have hc1 := Aside0.mk (hst.out w13 _ _ 3 3 5 5 _ _ true hb13 (CI_pre (rowI_C (xs := [2, 3, 4, 5, 15]) hP13 (by simp)) 3 (by decide)) (CI_pre (rowI_C (xs := [2, 3, 4, 19, 25]) hQ13 (by simp)) 3 (by decide)) rfl rfl (by decide) (by decide) (by decide) (by decide) (deny_first f 3 (by decide) (by decide)))
    have z13 := box1 ((hb13.block _ (blk_lt hbx.out)).trans hbx.out)
    have hB13 := Aside0.mk (below_step hB.out hb13)
    replace hb13 := Aside0.mk hb13
    clear hst hP13 hQ13 hB
    go_wp2_with fail
    refine hc1.out.mono ?_; rintro e_ w14 ⟨rfl, hb14⟩
    have hV14 := Aside0.mk (below_step hb13.out hb14)
    have hB14 := Aside0.mk (below_step hB13.out hb14)
    have z14 := box1 ((hV14.out.block _ (blk_lt hbx.out)).trans hbx.out)
    have hc2 := hst2.out w14 5 [3, 5, 13, 15, 16] [3, 19, 24, 25, 26] true hV14.out rfl rfl (by decide) (deny_second f)
    simp only [List.map_cons, List.map_nil] at hc2
    replace hc2 := Aside0.mk hc2
    clear hc1 hb14 hB13 hb13 z13
    go_wp2_with fail
    refine hc2.out.mono ?_; rintro e_ w15 ⟨rfl, hb15⟩
    have hV15 := Aside0.mk (below_step hV14.out hb15)
    have hB15 := Aside0.mk (below_step hB14.out hb15)
    have z15 := box1 ((hV15.out.block _ (blk_lt hbx.out)).trans hbx.out)
    have hc3 := hst2.out w15 3 [4, 4, 0] [4, 19, 0] false hV15.out rfl rfl (by decide) (deny_third f)
    simp only [List.map_cons, List.map_nil] at hc3
    replace hc3 := Aside0.mk hc3
    clear hc2 hb15 hB14 hV14 z14 hst2
    go_wp2_with fail
    refine hc3.out.mono ?_; rintro e_ w16 ⟨rfl, hb16⟩
    have hB16 := Aside0.mk (below_step hB15.out hb16)
    clear hc3 hb16 hB15 hV15 z15
    go_wp2
    go_ret
    exact ⟨rfl, hB16.out⟩
  · skip
    refine start_ (n := 10) (S := fun w' => True) (ds := []) #[false, false, false, false, false, false, false, false, false, false] (by kernel_rfl) rfl rfl trivial (fun hHeld => ?_)
    refine p_ 1 (some 91) #[false, true, false, false, false, false, false, false, false, false] ?_
    refine p_ 3 (some 93) #[false, true, false, true, false, false, false, false, false, false] ?_
    refine p_ 4 (some 94) #[false, true, false, true, true, false, false, false, false, false] ?_
    refine p_ 6 (some 96) #[false, true, false, true, true, false, true, false, false, false] ?_
    refine join_ (σ := Nat × Nat) 1 #[true, true, true, true, true, true, true, true, true, false] (fun s_ => [(90, .slice (some ⟨s_.1, 0, none⟩) 5 5), (92, .slice (some ⟨s_.1, 0, none⟩) 4 5), (95, .slice (some ⟨s_.2, 0, none⟩) 5 5), (97, .slice (some ⟨s_.2, 0, none⟩) 4 5), (18, .slice (some ⟨s_.1, 0, none⟩) 4 5)]) (fun s_ w' => w'.heap[s_.1]? = some (.cells #[.int .i64 2, .int .i64 3, .int .i64 4, .int .i64 5, .int .i64 15] 3 (0, 0)) ∧ w'.heap[s_.2]? = some (.cells #[.int .i64 2, .int .i64 3, .int .i64 4, .int .i64 19, .int .i64 25] 3 (0, 0)) ∧ Below v26.heap.size v26 w') ?_ ?_
    rotate_left
    · intro hCont
      refine two_ (i := 0) (j := 5) (Ni := some 90) (Nj := some 95) #[true, true, false, true, true, false, true, false, false, false] #[false, true, false, true, true, true, true, false, false, false] rfl rfl rfl rfl (by kernel_rfl) (by decide) (by decide) (fun K hK => ?_) (fun K hK => ?_)
      · skip
        refine value_ (w1 := ?_) (v := ?_) (by rfl) rfl ?_ ?_
        rotate_left 2
        · go_simp
          constructor
          · rfl
          · rfl
        have hPa := heap_alloc_new v26.drew (.cells #[.int .i64 2, .int .i64 3, .int .i64 4, .int .i64 5, .int .i64 15] 3 (0, 0))
        have hbp := below_alloc (Below.refl v26.heap.size v26).drew (.cells #[.int .i64 2, .int .i64 3, .int .i64 4, .int .i64 5, .int .i64 15] 3 (0, 0))
        refine hK.out _ _ trivial (fun hHeld => ?_)
        clear hK K
        refine norm_ (a' := ?_) ?_ ?_
        rotate_left
        · show Act.put _ (some 90) _ = _
          simp only [Act.put, List.setIfInBounds_toArray, List.set_cons_zero, List.set_cons_succ, i64_w, i32_w]
          rfl
        refine p_ 2 (some 92) #[true, true, true, true, true, false, true, false, false, false] ?_
        refine p_ 8 (some 18) #[true, true, true, true, true, false, true, false, true, false] ?_
        refine one_ (i := 5) (N := some 95) #[true, true, true, true, true, true, true, false, true, false] rfl rfl (by kernel_rfl) (by decide) (fun K hK => ?_)
        refine value_ (w1 := ?_) (v := ?_) (by rfl) rfl ?_ ?_
        rotate_left 2
        · go_simp
          constructor
          · rfl
          · rfl
        have hPb := heap_alloc_new (v26.drew.alloc (.cells #[.int .i64 2, .int .i64 3, .int .i64 4, .int .i64 5, .int .i64 15] 3 (0, 0))) (.cells #[.int .i64 2, .int .i64 3, .int .i64 4, .int .i64 19, .int .i64 25] 3 (0, 0))
        rw [World.size_alloc] at hPb
        replace hPa := ((below_alloc (Below.refl _ _) (.cells #[.int .i64 2, .int .i64 3, .int .i64 4, .int .i64 19, .int .i64 25] 3 (0, 0))).block _ (blk_lt hPa)).trans hPa
        replace hbp := below_alloc hbp (.cells #[.int .i64 2, .int .i64 3, .int .i64 4, .int .i64 19, .int .i64 25] 3 (0, 0))
        refine hK.out _ _ trivial (fun hHeld => ?_)
        clear hK K
        refine norm_ (a' := ?_) ?_ ?_
        rotate_left
        · show Act.put _ (some 95) _ = _
          simp only [Act.put, List.setIfInBounds_toArray, List.set_cons_zero, List.set_cons_succ, i64_w, i32_w]
          rfl
        refine p_ 7 (some 97) #[true, true, true, true, true, true, true, true, true, false] ?_
        exact norm_ (by simp only [putAll, Act.put, List.setIfInBounds_toArray, List.set_cons_zero, List.set_cons_succ]) (hCont (v26.heap.size, v26.heap.size + 1) _ ⟨hPa, hPb, hbp⟩)
      · skip
        refine value_ (w1 := ?_) (v := ?_) (by rfl) rfl ?_ ?_
        rotate_left 2
        · go_simp
          constructor
          · rfl
          · rfl
        have hPb := heap_alloc_new v26.drew (.cells #[.int .i64 2, .int .i64 3, .int .i64 4, .int .i64 19, .int .i64 25] 3 (0, 0))
        have hbp := below_alloc (Below.refl v26.heap.size v26).drew (.cells #[.int .i64 2, .int .i64 3, .int .i64 4, .int .i64 19, .int .i64 25] 3 (0, 0))
        refine hK.out _ _ trivial (fun hHeld => ?_)
        clear hK K
        refine norm_ (a' := ?_) ?_ ?_
        rotate_left
        · show Act.put _ (some 95) _ = _
          simp only [Act.put, List.setIfInBounds_toArray, List.set_cons_zero, List.set_cons_succ, i64_w, i32_w]
          rfl
        refine p_ 7 (some 97) #[false, true, false, true, true, true, true, true, false, false] ?_
        refine one_ (i := 0) (N := some 90) #[true, true, false, true, true, true, true, true, false, false] rfl rfl (by kernel_rfl) (by decide) (fun K hK => ?_)
        refine value_ (w1 := ?_) (v := ?_) (by rfl) rfl ?_ ?_
        rotate_left 2
        · go_simp
          constructor
          · rfl
          · rfl
        have hPa := heap_alloc_new (v26.drew.alloc (.cells #[.int .i64 2, .int .i64 3, .int .i64 4, .int .i64 19, .int .i64 25] 3 (0, 0))) (.cells #[.int .i64 2, .int .i64 3, .int .i64 4, .int .i64 5, .int .i64 15] 3 (0, 0))
        rw [World.size_alloc] at hPa
        replace hPb := ((below_alloc (Below.refl _ _) (.cells #[.int .i64 2, .int .i64 3, .int .i64 4, .int .i64 5, .int .i64 15] 3 (0, 0))).block _ (blk_lt hPb)).trans hPb
        replace hbp := below_alloc hbp (.cells #[.int .i64 2, .int .i64 3, .int .i64 4, .int .i64 5, .int .i64 15] 3 (0, 0))
        refine hK.out _ _ trivial (fun hHeld => ?_)
        clear hK K
        refine norm_ (a' := ?_) ?_ ?_
        rotate_left
        · show Act.put _ (some 90) _ = _
          simp only [Act.put, List.setIfInBounds_toArray, List.set_cons_zero, List.set_cons_succ, i64_w, i32_w]
          rfl
        refine p_ 2 (some 92) #[true, true, true, true, true, true, true, true, false, false] ?_
        refine p_ 8 (some 18) #[true, true, true, true, true, true, true, true, true, false] ?_
        exact norm_ (by simp only [putAll, Act.put, List.setIfInBounds_toArray, List.set_cons_zero, List.set_cons_succ]) (hCont (v26.heap.size + 1, v26.heap.size) _ ⟨hPa, hPb, hbp⟩)
    rintro ⟨x_, y_⟩ w13 ⟨hP13, hQ13, hb13⟩
    have hHeld : True := trivial
    dsimp only at hP13 hQ13
    refine norm_ (a' := ?_) ?_ ?_
    rotate_left
    · simp only [putAll, Act.put, List.setIfInBounds_toArray, List.set_cons_zero, List.set_cons_succ]
      rfl
    refine p_ 9 (some 19) #[true, true, true, true, true, true, true, true, true, true] ?_
    refine done_ (by kernel_rfl) ?_
    have hc1 := Aside0.mk (hst.out w13 _ _ 4 4 5 5 _ _ true hb13 (CI_pre (rowI_C (xs := [2, 3, 4, 5, 15]) hP13 (by simp)) 4 (by decide)) (CI_pre (rowI_C (xs := [2, 3, 4, 19, 25]) hQ13 (by simp)) 4 (by decide)) rfl rfl (by decide) (by decide) (by decide) (by decide) (deny_first f 4 (by decide) (by decide)))
    have z13 := box1 ((hb13.block _ (blk_lt hbx.out)).trans hbx.out)
    have hB13 := Aside0.mk (below_step hB.out hb13)
    replace hb13 := Aside0.mk hb13
    clear hst hP13 hQ13 hB
    go_wp2_with fail
    refine hc1.out.mono ?_; rintro e_ w14 ⟨rfl, hb14⟩
    have hV14 := Aside0.mk (below_step hb13.out hb14)
    have hB14 := Aside0.mk (below_step hB13.out hb14)
    have z14 := box1 ((hV14.out.block _ (blk_lt hbx.out)).trans hbx.out)
    have hc2 := hst2.out w14 5 [3, 5, 13, 15, 16] [3, 19, 24, 25, 26] true hV14.out rfl rfl (by decide) (deny_second f)
    simp only [List.map_cons, List.map_nil] at hc2
    replace hc2 := Aside0.mk hc2
    clear hc1 hb14 hB13 hb13 z13
    go_wp2_with fail
    refine hc2.out.mono ?_; rintro e_ w15 ⟨rfl, hb15⟩
    have hV15 := Aside0.mk (below_step hV14.out hb15)
    have hB15 := Aside0.mk (below_step hB14.out hb15)
    have z15 := box1 ((hV15.out.block _ (blk_lt hbx.out)).trans hbx.out)
    have hc3 := hst2.out w15 3 [4, 4, 0] [4, 19, 0] false hV15.out rfl rfl (by decide) (deny_third f)
    simp only [List.map_cons, List.map_nil] at hc3
    replace hc3 := Aside0.mk hc3
    clear hc2 hb15 hB14 hV14 z14 hst2
    go_wp2_with fail
    refine hc3.out.mono ?_; rintro e_ w16 ⟨rfl, hb16⟩
    have hB16 := Aside0.mk (below_step hB15.out hb16)
    clear hc3 hb16 hB15 hV15 z15
    go_wp2
    go_ret
    exact ⟨rfl, hB16.out⟩
  · skip
    refine start_ (n := 10) (S := fun w' => True) (ds := []) #[false, false, false, false, false, false, false, false, false, false] (by kernel_rfl) rfl rfl trivial (fun hHeld => ?_)
    refine p_ 1 (some 91) #[false, true, false, false, false, false, false, false, false, false] ?_
    refine p_ 3 (some 93) #[false, true, false, true, false, false, false, false, false, false] ?_
    refine p_ 4 (some 94) #[false, true, false, true, true, false, false, false, false, false] ?_
    refine p_ 6 (some 96) #[false, true, false, true, true, false, true, false, false, false] ?_
    refine join_ (σ := Nat × Nat) 1 #[true, true, true, true, true, true, true, true, true, false] (fun s_ => [(90, .slice (some ⟨s_.1, 0, none⟩) 5 5), (92, .slice (some ⟨s_.1, 0, none⟩) 5 5), (95, .slice (some ⟨s_.2, 0, none⟩) 5 5), (97, .slice (some ⟨s_.2, 0, none⟩) 5 5), (18, .slice (some ⟨s_.1, 0, none⟩) 5 5)]) (fun s_ w' => w'.heap[s_.1]? = some (.cells #[.int .i64 2, .int .i64 3, .int .i64 4, .int .i64 5, .int .i64 15] 3 (0, 0)) ∧ w'.heap[s_.2]? = some (.cells #[.int .i64 2, .int .i64 3, .int .i64 4, .int .i64 19, .int .i64 25] 3 (0, 0)) ∧ Below v26.heap.size v26 w') ?_ ?_
    rotate_left
    · intro hCont
      refine two_ (i := 0) (j := 5) (Ni := some 90) (Nj := some 95) #[true, true, false, true, true, false, true, false, false, false] #[false, true, false, true, true, true, true, false, false, false] rfl rfl rfl rfl (by kernel_rfl) (by decide) (by decide) (fun K hK => ?_) (fun K hK => ?_)
      · skip
        refine value_ (w1 := ?_) (v := ?_) (by rfl) rfl ?_ ?_
        rotate_left 2
        · go_simp
          constructor
          · rfl
          · rfl
        have hPa := heap_alloc_new v26.drew (.cells #[.int .i64 2, .int .i64 3, .int .i64 4, .int .i64 5, .int .i64 15] 3 (0, 0))
        have hbp := below_alloc (Below.refl v26.heap.size v26).drew (.cells #[.int .i64 2, .int .i64 3, .int .i64 4, .int .i64 5, .int .i64 15] 3 (0, 0))
        refine hK.out _ _ trivial (fun hHeld => ?_)
        clear hK K
        refine norm_ (a' := ?_) ?_ ?_
        rotate_left
        · show Act.put _ (some 90) _ = _
          simp only [Act.put, List.setIfInBounds_toArray, List.set_cons_zero, List.set_cons_succ, i64_w, i32_w]
          rfl
        refine p_ 2 (some 92) #[true, true, true, true, true, false, true, false, false, false] ?_
        refine p_ 8 (some 18) #[true, true, true, true, true, false, true, false, true, false] ?_
        refine one_ (i := 5) (N := some 95) #[true, true, true, true, true, true, true, false, true, false] rfl rfl (by kernel_rfl) (by decide) (fun K hK => ?_)
        refine value_ (w1 := ?_) (v := ?_) (by rfl) rfl ?_ ?_
        rotate_left 2
        · go_simp
          constructor
          · rfl
          · rfl
        have hPb := heap_alloc_new (v26.drew.alloc (.cells #[.int .i64 2, .int .i64 3, .int .i64 4, .int .i64 5, .int .i64 15] 3 (0, 0))) (.cells #[.int .i64 2, .int .i64 3, .int .i64 4, .int .i64 19, .int .i64 25] 3 (0, 0))
        rw [World.size_alloc] at hPb
        replace hPa := ((below_alloc (Below.refl _ _) (.cells #[.int .i64 2, .int .i64 3, .int .i64 4, .int .i64 19, .int .i64 25] 3 (0, 0))).block _ (blk_lt hPa)).trans hPa
        replace hbp := below_alloc hbp (.cells #[.int .i64 2, .int .i64 3, .int .i64 4, .int .i64 19, .int .i64 25] 3 (0, 0))
        refine hK.out _ _ trivial (fun hHeld => ?_)
        clear hK K
        refine norm_ (a' := ?_) ?_ ?_
        rotate_left
        · show Act.put _ (some 95) _ = _
          simp only [Act.put, List.setIfInBounds_toArray, List.set_cons_zero, List.set_cons_succ, i64_w, i32_w]
          rfl
        refine p_ 7 (some 97) #[true, true, true, true, true, true, true, true, true, false] ?_
        exact norm_ (by simp only [putAll, Act.put, List.setIfInBounds_toArray, List.set_cons_zero, List.set_cons_succ]) (hCont (v26.heap.size, v26.heap.size + 1) _ ⟨hPa, hPb, hbp⟩)
      · skip
        refine value_ (w1 := ?_) (v := ?_) (by rfl) rfl ?_ ?_
        rotate_left 2
        · go_simp
          constructor
          · rfl
          · rfl
        have hPb := heap_alloc_new v26.drew (.cells #[.int .i64 2, .int .i64 3, .int .i64 4, .int .i64 19, .int .i64 25] 3 (0, 0))
        have hbp := below_alloc (Below.refl v26.heap.size v26).drew (.cells #[.int .i64 2, .int .i64 3, .int .i64 4, .int .i64 19, .int .i64 25] 3 (0, 0))
        refine hK.out _ _ trivial (fun hHeld => ?_)
        clear hK K
        refine norm_ (a' := ?_) ?_ ?_
        rotate_left
        · show Act.put _ (some 95) _ = _
          simp only [Act.put, List.setIfInBounds_toArray, List.set_cons_zero, List.set_cons_succ, i64_w, i32_w]
          rfl
        refine p_ 7 (some 97) #[false, true, false, true, true, true, true, true, false, false] ?_
        refine one_ (i := 0) (N := some 90) #[true, true, false, true, true, true, true, true, false, false] rfl rfl (by kernel_rfl) (by decide) (fun K hK => ?_)
        refine value_ (w1 := ?_) (v := ?_) (by rfl) rfl ?_ ?_
        rotate_left 2
        · go_simp
          constructor
          · rfl
          · rfl
        have hPa := heap_alloc_new (v26.drew.alloc (.cells #[.int .i64 2, .int .i64 3, .int .i64 4, .int .i64 19, .int .i64 25] 3 (0, 0))) (.cells #[.int .i64 2, .int .i64 3, .int .i64 4, .int .i64 5, .int .i64 15] 3 (0, 0))
        rw [World.size_alloc] at hPa
        replace hPb := ((below_alloc (Below.refl _ _) (.cells #[.int .i64 2, .int .i64 3, .int .i64 4, .int .i64 5, .int .i64 15] 3 (0, 0))).block _ (blk_lt hPb)).trans hPb
        replace hbp := below_alloc hbp (.cells #[.int .i64 2, .int .i64 3, .int .i64 4, .int .i64 5, .int .i64 15] 3 (0, 0))
        refine hK.out _ _ trivial (fun hHeld => ?_)
        clear hK K
        refine norm_ (a' := ?_) ?_ ?_
        rotate_left
        · show Act.put _ (some 90) _ = _
          simp only [Act.put, List.setIfInBounds_toArray, List.set_cons_zero, List.set_cons_succ, i64_w, i32_w]
          rfl
        refine p_ 2 (some 92) #[true, true, true, true, true, true, true, true, false, false] ?_
        refine p_ 8 (some 18) #[true, true, true, true, true, true, true, true, true, false] ?_
        exact norm_ (by simp only [putAll, Act.put, List.setIfInBounds_toArray, List.set_cons_zero, List.set_cons_succ]) (hCont (v26.heap.size + 1, v26.heap.size) _ ⟨hPa, hPb, hbp⟩)
    rintro ⟨x_, y_⟩ w13 ⟨hP13, hQ13, hb13⟩
    have hHeld : True := trivial
    dsimp only at hP13 hQ13
    refine norm_ (a' := ?_) ?_ ?_
    rotate_left
    · simp only [putAll, Act.put, List.setIfInBounds_toArray, List.set_cons_zero, List.set_cons_succ]
      rfl
    refine p_ 9 (some 19) #[true, true, true, true, true, true, true, true, true, true] ?_
    refine done_ (by kernel_rfl) ?_
    have hc1 := Aside0.mk (hst.out w13 _ _ 5 5 5 5 _ _ true hb13 (CI_pre (rowI_C (xs := [2, 3, 4, 5, 15]) hP13 (by simp)) 5 (by decide)) (CI_pre (rowI_C (xs := [2, 3, 4, 19, 25]) hQ13 (by simp)) 5 (by decide)) rfl rfl (by decide) (by decide) (by decide) (by decide) (deny_first f 5 (by decide) (by decide)))
    have z13 := box1 ((hb13.block _ (blk_lt hbx.out)).trans hbx.out)
    have hB13 := Aside0.mk (below_step hB.out hb13)
    replace hb13 := Aside0.mk hb13
    clear hst hP13 hQ13 hB
    go_wp2_with fail
    refine hc1.out.mono ?_; rintro e_ w14 ⟨rfl, hb14⟩
    have hV14 := Aside0.mk (below_step hb13.out hb14)
    have hB14 := Aside0.mk (below_step hB13.out hb14)
    have z14 := box1 ((hV14.out.block _ (blk_lt hbx.out)).trans hbx.out)
    have hc2 := hst2.out w14 5 [3, 5, 13, 15, 16] [3, 19, 24, 25, 26] true hV14.out rfl rfl (by decide) (deny_second f)
    simp only [List.map_cons, List.map_nil] at hc2
    replace hc2 := Aside0.mk hc2
    clear hc1 hb14 hB13 hb13 z13
    go_wp2_with fail
    refine hc2.out.mono ?_; rintro e_ w15 ⟨rfl, hb15⟩
    have hV15 := Aside0.mk (below_step hV14.out hb15)
    have hB15 := Aside0.mk (below_step hB14.out hb15)
    have z15 := box1 ((hV15.out.block _ (blk_lt hbx.out)).trans hbx.out)
    have hc3 := hst2.out w15 3 [4, 4, 0] [4, 19, 0] false hV15.out rfl rfl (by decide) (deny_third f)
    simp only [List.map_cons, List.map_nil] at hc3
    replace hc3 := Aside0.mk hc3
    clear hc2 hb15 hB14 hV14 z14 hst2
    go_wp2_with fail
    refine hc3.out.mono ?_; rintro e_ w16 ⟨rfl, hb16⟩
    have hB16 := Aside0.mk (below_step hB15.out hb16)
    clear hc3 hb16 hB15 hV15 z15
    go_wp2
    go_ret
    exact ⟨rfl, hB16.out⟩
end Go.Proofs.Ytenmmeehgnkcpaa.Q
