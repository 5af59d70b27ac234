/- RelayPushes: any relay with any mail more, which may be, and which two are the same, is as the document says, or refused.
   Conditions: the relays are read as such. -/
import Derived.Test.YtbmfcikjhnnnbaaHStep
import Derived.Test.YtbmfcikjhnnnbaaHFewAt
import Derived.Test.YtbmfcikjhnnnbaaHWhy
namespace Go.Proofs.Ytbmfcikjhnnnbaa.Q
open Go.RowKit Go.Proofs.YtbmfcikjhnnnbaaW.PrintWords Go.Proofs.YtbmfcikjhnnnbaaW.PrintLast Go.Proofs.YtbmfcikjhnnnbaaW.PrintMore
set_option linter.unusedVariables false
set_option linter.unusedSimpArgs false
abbrev bHLawPushes0 : Array Bool := #[false, false, false, false, false, false, false, false, false, false, false, false, false, false, false, false, false, false, false, false, false, false, false, false]
abbrev bHLawPushes1 : Array Bool := #[true, false, false, false, false, false, false, false, false, false, false, false, false, false, false, false, false, false, false, false, false, false, false, false]
abbrev bHLawPushes2 : Array Bool := #[true, false, true, false, false, false, false, false, false, false, false, false, false, false, false, false, false, false, false, false, false, false, false, false]
abbrev bHLawPushes3 : Array Bool := #[true, true, true, false, false, false, false, false, false, false, false, false, false, false, false, false, false, false, false, false, false, false, false, false]
abbrev bHLawPushes4 : Array Bool := #[true, true, true, true, false, false, false, false, false, false, false, false, false, false, false, false, false, false, false, false, false, false, false, false]
abbrev bHLawPushes5 : Array Bool := #[true, true, true, true, true, false, false, false, false, false, false, false, false, false, false, false, false, false, false, false, false, false, false, false]
abbrev bHLawPushes6 : Array Bool := #[true, true, true, true, true, true, false, false, false, false, false, false, false, false, false, false, false, false, false, false, false, false, false, false]
abbrev bHLawPushes7 : Array Bool := #[true, true, true, true, true, true, true, false, false, false, false, false, false, false, false, false, false, false, false, false, false, false, false, false]
abbrev bHLawPushes8 : Array Bool := #[true, true, true, true, true, true, true, true, false, false, false, false, false, false, false, false, false, false, false, false, false, false, false, false]
abbrev bHLawPushes9 : Array Bool := #[true, true, true, true, true, true, true, true, false, true, false, false, false, false, false, false, false, false, false, false, false, false, false, false]
abbrev bHLawPushes10 : Array Bool := #[true, true, true, true, true, true, true, true, false, true, true, false, false, false, false, false, false, false, false, false, false, false, false, false]
abbrev bHLawPushes11 : Array Bool := #[true, true, true, true, true, true, true, true, true, true, true, false, false, false, false, false, false, false, false, false, false, false, false, false]
abbrev bHLawPushes12 : Array Bool := #[true, true, true, true, true, true, true, true, true, true, true, true, false, false, false, false, false, false, false, false, false, false, false, false]
abbrev bHLawPushes13 : Array Bool := #[true, true, true, true, true, true, true, true, true, true, true, true, true, false, false, false, false, false, false, false, false, false, false, false]
abbrev bHLawPushes14 : Array Bool := #[true, true, true, true, true, true, true, true, true, true, true, true, true, true, false, false, false, false, false, false, false, false, false, false]
abbrev bHLawPushes15 : Array Bool := #[true, true, true, true, true, true, true, true, true, true, true, true, true, true, true, false, false, false, false, false, false, false, false, false]
abbrev bHLawPushes16 : Array Bool := #[true, true, true, true, true, true, true, true, true, true, true, true, true, true, true, true, false, false, false, false, false, false, false, false]
abbrev bHLawPushes17 : Array Bool := #[true, true, true, true, true, true, true, true, true, true, true, true, true, true, true, true, true, false, false, false, false, false, false, false]
abbrev bHLawPushes18 : Array Bool := #[true, true, true, true, true, true, true, true, true, true, true, true, true, true, true, true, true, true, false, false, false, false, false, false]
abbrev bHLawPushes19 : Array Bool := #[true, true, true, true, true, true, true, true, true, true, true, true, true, true, true, true, true, true, true, false, false, false, false, false]
abbrev bHLawPushes20 : Array Bool := #[true, true, true, true, true, true, true, true, true, true, true, true, true, true, true, true, true, true, true, true, false, false, false, false]
abbrev bHLawPushes21 : Array Bool := #[true, true, true, true, true, true, true, true, true, true, true, true, true, true, true, true, true, true, true, true, true, false, false, false]
abbrev bHLawPushes22 : Array Bool := #[true, true, true, true, true, true, true, true, true, true, true, true, true, true, true, true, true, true, true, true, true, true, false, false]
abbrev bHLawPushes23 : Array Bool := #[true, true, true, true, true, true, true, true, true, true, true, true, true, true, true, true, true, true, true, true, true, true, true, false]
abbrev bHLawPushes24 : Array Bool := #[true, true, true, true, true, true, true, true, true, true, true, true, true, true, true, true, true, true, true, true, true, true, true, true]

theorem why_lt {l : List S57} {now next u : Int} {s : ByteArray} (h : whyL l now next u s = 0) : next < 4611686018427387904 := by
  unfold whyL at h
  by_cases e : relB l now next = true
  · exact rel_next e
  · rw [if_neg e] at h
    cases h
set_option maxHeartbeats 8000000 in
set_option maxRecDepth 100000 in
theorem pushes_core (A0 : Option Addr) (c0 : Nat) (l0 : List S57) (n0 q0 : Int) (A1 : Option Addr) (c1 : Nat) (l1 : List S57) (n1 q1 : Int) (u : Int) (s : ByteArray) (w : World) (hr0 : Kd.C k57 w A0 l0.length l0) (hc0 : l0.length ≤ c0) (hr1 : Kd.C k57 w A1 l1.length l1) (hc1 : l1.length ≤ c1) (g0 : good22 l0) (g1 : good22 l1) (hn0 : 0 ≤ n0 ∧ n0 ≤ 18446744073709551615) (hq0 : 0 ≤ q0 ∧ q0 < 18446744073709551616) :
    Calls Try.prog 3 #[rv A0 l0.length c0 n0 q0, rv A1 l1.length c1 n1 q1, .int .u64 u, .string s] w fun e w' => e = .returned (.bool true) ∧ Below w.heap.size w w' := by
  have hsm0 := small_few g0
  have hsm1 := small_few g1
  obtain ⟨l, hl⟩ : ∃ l, fewL l0 = l := ⟨_, rfl⟩
  obtain ⟨m, hm⟩ : ∃ l, fewL l1 = l := ⟨_, rfl⟩
  rw [hl] at hsm0
  rw [hm] at hsm1
  have hl10 := hsm0.1
  have hm10 := hsm1.1
  have hwf := Lib.hid (small_wf hsm0)
  have hmm := Lib.hid (fun x hx => by have := (hsm0.2 x hx).1; omega : ∀ x ∈ l, x.f1.length ≤ 1000000)
  replace hl := Lib.hid hl
  replace hm := Lib.hid hm
  replace hsm0 := Lib.hid hsm0
  clear hsm1 g0 g1
  obtain ⟨w1, hw1⟩ : ∃ w1, w.alloc (.cells #[.slice A0 l0.length c0, .int .u64 n0, .int .u64 q0] 25 (0, 0)) = w1 := ⟨_, rfl⟩
  have hb1 : Below w.heap.size w w1 := by rw [← hw1]; exact below_alloc (Below.refl _ _) _
  have hs1 : w1.heap.size = w.heap.size + 1 := by rw [← hw1]; simp
  have hK1 : w1.heap[w.heap.size]? = some (.cells #[.slice A0 l0.length c0, .int .u64 n0, .int .u64 q0] 25 (0, 0)) := by rw [← hw1]; exact heap_alloc_new _ _
  obtain ⟨w2, hw2⟩ : ∃ w2, w1.alloc (.cells #[.slice A1 l1.length c1, .int .u64 n1, .int .u64 q1] 25 (0, 0)) = w2 := ⟨_, rfl⟩
  have hb2 : Below w1.heap.size w1 w2 := by rw [← hw2]; exact below_alloc (Below.refl _ _) _
  have hs2 : w2.heap.size = w.heap.size + 2 := by rw [← hw2]; simp [hs1]
  have hK52 : w2.heap[w.heap.size + 1]? = some (.cells #[.slice A1 l1.length c1, .int .u64 n1, .int .u64 q1] 25 (0, 0)) := by rw [← hs1, ← hw2]; exact heap_alloc_new _ _
  have hK42 := (hb2.block _ (blk_lt hK1)).trans hK1
  have HB2 := Aside0.mk (below_step hb1 hb2)
  have hqa : Hid (∀ W, Below w2.heap.size w2 W → W.cell? ⟨w.heap.size, 0, none⟩ = some (.slice A0 l0.length c0) ∧ W.cell? ⟨w.heap.size, 1, none⟩ = some (.int .u64 n0) ∧ W.cell? ⟨w.heap.size, 2, none⟩ = some (.int .u64 q0) ∧ W.cell? ⟨w.heap.size + 1, 0, none⟩ = some (.slice A1 l1.length c1) ∧ W.cell? ⟨w.heap.size + 1, 1, none⟩ = some (.int .u64 n1) ∧ W.cell? ⟨w.heap.size + 1, 2, none⟩ = some (.int .u64 q1)) := Lib.hid fun W hW => by
    obtain ⟨a, b, c⟩ := box3 ((hW.block _ (blk_lt hK42)).trans hK42)
    obtain ⟨d, e, f⟩ := box3 ((hW.block _ (blk_lt hK52)).trans hK52)
    exact ⟨a, b, c, d, e, f⟩
  replace hs2 := Lib.hid hs2
  have hd2 := Lib.hid (show w2.drew.heap.size = w2.heap.size from rfl)
  clear hb1 hK1 hb2
  go_enter Try.func3, Try.ntmps3
  go_wp2
  refine start_ (n := 6) (S := fun w' => w'.cell? ⟨w.heap.size, 0, none⟩ = some (.slice A0 l0.length c0) ∧ w'.cell? ⟨w.heap.size, 1, none⟩ = some (.int .u64 n0) ∧ w'.cell? ⟨w.heap.size, 2, none⟩ = some (.int .u64 q0) ∧ w'.cell? ⟨w.heap.size + 1, 0, none⟩ = some (.slice A1 l1.length c1) ∧ w'.cell? ⟨w.heap.size + 1, 1, none⟩ = some (.int .u64 n1) ∧ w'.cell? ⟨w.heap.size + 1, 2, none⟩ = some (.int .u64 q1)) (ds := [4, 5]) #[false, false, false, false, false, false] (by kernel_rfl) rfl rfl ⟨(hqa.out _ (Below.refl w2.heap.size w2).drew).1, (hqa.out _ (Below.refl w2.heap.size w2).drew).2.1, (hqa.out _ (Below.refl w2.heap.size w2).drew).2.2.1, (hqa.out _ (Below.refl w2.heap.size w2).drew).2.2.2.1, (hqa.out _ (Below.refl w2.heap.size w2).drew).2.2.2.2.1, (hqa.out _ (Below.refl w2.heap.size w2).drew).2.2.2.2.2⟩ (fun hHeld => ?_)
  refine t_ 0 (some 12) #[true, false, false, false, false, false] hHeld (hv := by rintro w' ⟨s0, s1, s2, s3, s4, s5⟩; go_simp; with_reducible rfl) (h := ?_)
  refine t_ 2 (some 14) #[true, false, true, false, false, false] hHeld (hv := by rintro w' ⟨s0, s1, s2, s3, s4, s5⟩; go_simp; with_reducible rfl) (h := ?_)
  refine one_ (i := 1) (N := some 13) #[true, true, true, false, false, false] rfl rfl (by kernel_rfl) (by decide) (fun K hK => ?_)
  refine goes_ Try.func8 (by kernel_rfl) rfl #[.agg #[.slice A0 l0.length c0, .int .u64 n0, .int .u64 q0]] (by rfl) rfl rfl (by simp only [List.map_toArray, List.map_cons, List.map_nil]; rfl) ?_
  with_reducible refine (few_at A0 c0 l0 l n0 q0 w _ hr0 hc0 (below_drew HB2.out) hl.out).mono ?_
  rintro e_ w3 ⟨A2, c2, rfl, hc2, hN2, hb3⟩
  refine ⟨_, rfl, ?_⟩
  have HB3 := Below.trans (Below.refl w2.heap.size w2).drew hb3
  refine hK.out _ _ ⟨(hqa.out _ HB3).1, (hqa.out _ HB3).2.1, (hqa.out _ HB3).2.2.1, (hqa.out _ HB3).2.2.2.1, (hqa.out _ HB3).2.2.2.2.1, (hqa.out _ HB3).2.2.2.2.2⟩ (fun hHeld => ?_)
  clear hK K
  refine norm_ (a' := ?_) ?_ ?_
  rotate_left
  · show Act.put _ (some 13) _ = _
    simp only [Act.put, List.setIfInBounds_toArray, List.set_cons_zero, List.set_cons_succ, i64_w, i32_w]
    rfl
  refine one_ (i := 3) (N := some 15) #[true, true, true, true, false, false] rfl rfl (by kernel_rfl) (by decide) (fun K hK => ?_)
  refine goes_ Try.func8 (by kernel_rfl) rfl #[.agg #[.slice A1 l1.length c1, .int .u64 n1, .int .u64 q1]] (by rfl) rfl rfl (by simp only [List.map_toArray, List.map_cons, List.map_nil]; rfl) ?_
  with_reducible refine (few_at A1 c1 l1 m n1 q1 w _ hr1 hc1 (below_step HB2.out HB3) hm.out).mono ?_
  rintro e_ w4 ⟨A3, c3, rfl, hc3, hN3, hb4⟩
  refine ⟨_, rfl, ?_⟩
  have HB4 := below_step HB3 hb4
  have hK44 := (HB4.block _ (blk_lt hK42)).trans hK42
  have hK54 := (HB4.block _ (blk_lt hK52)).trans hK52
  have hN24 := Kd.N_below hN2 hb4
  refine hK.out _ _ ⟨(hqa.out _ HB4).1, (hqa.out _ HB4).2.1, (hqa.out _ HB4).2.2.1, (hqa.out _ HB4).2.2.2.1, (hqa.out _ HB4).2.2.2.2.1, (hqa.out _ HB4).2.2.2.2.2⟩ (fun hHeld => ?_)
  clear hK K
  refine norm_ (a' := ?_) ?_ ?_
  rotate_left
  · show Act.put _ (some 15) _ = _
    simp only [Act.put, List.setIfInBounds_toArray, List.set_cons_zero, List.set_cons_succ, i64_w, i32_w]
    rfl
  refine last_ (i := 4) (N := none) #[true, true, true, true, true, false] rfl rfl (by kernel_rfl) (by decide) (fun K hK => ?_)
  refine skip_storeBox (by rfl) rfl 25 (.tmp 4) (.tmp 13) rfl (.agg #[.slice A2 l.length c2, .int .u64 n0, .int .u64 q0]) [.slice A2 l.length c2, .int .u64 n0, .int .u64 q0] rfl rfl rfl (by kernel_rfl) (by simp [Value.oneCell']) hK44 rfl ?_
  intro w5 hK5 hg5 hs5
  have hN25 := Kd.N_grown hN24 hg5 (fun k hk e => by injection e with e; have := hs2.out; have := hd2.out; rcases hk with h | h <;> omega)
  have hN35 := Kd.N_grown hN3 hg5 (fun k hk e => by injection e with e; have := hs2.out; have := hd2.out; have := HB3.size; rcases hk with h | h <;> omega)
  have hK55 := (hg5.block _ (blk_lt hK54) (fun e => by injection e with e; omega)).trans hK54
  clear hs5
  refine hK.out _ _ ?_
  clear hK K
  refine last_ (i := 5) (N := none) #[true, true, true, true, true, true] rfl rfl (by kernel_rfl) (by decide) (fun K hK => ?_)
  refine skip_storeBox (by rfl) rfl 25 (.tmp 5) (.tmp 15) rfl (.agg #[.slice A3 m.length c3, .int .u64 n1, .int .u64 q1]) [.slice A3 m.length c3, .int .u64 n1, .int .u64 q1] rfl rfl rfl (by kernel_rfl) (by simp [Value.oneCell']) hK55 rfl ?_
  intro w6 hK6 hg6 hs6
  have hN26 := Kd.N_grown hN25 hg6 (fun k hk e => by injection e with e; have := hs2.out; have := hd2.out; rcases hk with h | h <;> omega)
  have hN36 := Kd.N_grown hN35 hg6 (fun k hk e => by injection e with e; have := hs2.out; have := hd2.out; have := HB3.size; rcases hk with h | h <;> omega)
  have hK46 := (hg6.block _ (blk_lt hK5) (fun e => by injection e with e; omega)).trans hK5
  clear hs6
  refine hK.out _ _ ?_
  clear hK K
  refine done_ (by kernel_rfl) ?_
  have HB6 : Below w.heap.size w w6 := by
    have h4 := below_step HB2.out HB4
    have h5 := h4.grown hg5 h4.size (fun k hk => by cases hk; exact Nat.le_refl _)
    exact h5.grown hg6 h5.size (fun k hk => by cases hk; exact Nat.le_succ _)
  have hq6 : Hid (∀ W, Below w6.heap.size w6 W → W.cell? ⟨w.heap.size, 0, none⟩ = some (.slice A2 l.length c2) ∧ W.cell? ⟨w.heap.size, 1, none⟩ = some (.int .u64 n0) ∧ W.cell? ⟨w.heap.size, 2, none⟩ = some (.int .u64 q0) ∧ W.cell? ⟨w.heap.size + 1, 0, none⟩ = some (.slice A3 m.length c3) ∧ W.cell? ⟨w.heap.size + 1, 1, none⟩ = some (.int .u64 n1) ∧ W.cell? ⟨w.heap.size + 1, 2, none⟩ = some (.int .u64 q1)) := Lib.hid fun W hW => by
    obtain ⟨a, b, c⟩ := box3 ((hW.block _ (blk_lt hK46)).trans hK46)
    obtain ⟨d, e, f⟩ := box3 ((hW.block _ (blk_lt hK6)).trans hK6)
    exact ⟨a, b, c, d, e, f⟩
  have hC2 := (Kd.N_reads' hN26).2.2
  have hC3 := (Kd.N_reads' hN36).2.2
  have hz6 : w.heap.size + 2 ≤ w6.heap.size := by have := hs2.out; have := HB4.size; have := hg5.size; have := hg6.size; omega
  have hpc := Aside0.mk (push_calls A2 c2 l n0 q0 u s w6 hC2 hc2 (by omega) hwf.out hn0 hq0.1)
  replace HB6 := Aside0.mk HB6
  have hrc6 := Lib.hid (fun (W : World) (hW : Below w6.heap.size w6 W) => right_calls A2 c2 l n0 q0 W (Kd.C_below hC2 hW) hwf.out hn0)
  have hrr6 := Lib.hid (fun (W : World) (hW : Below w6.heap.size w6 W) => demurralref16_Right.calls 3000 A2 c2 l n0 q0 _ W (Kd.C_below hC2 hW) hc2 (right_f l hsm0.out n0 q0 hn0.2 3000 (by decide)))
  have hlk6 := Lib.hid (fun (W : World) (hW : Below w6.heap.size w6 W) => like_calls A2 c2 l n0 q0 A3 c3 m n1 q1 W (Kd.C_below hC2 hW) hc2 (Kd.C_below hC3 hW) hc3 (by omega) hmm.out)
  have hsm6 := Lib.hid (fun (W : World) (hW : Below w6.heap.size w6 W) => demurralref16_Same.calls 3000 A2 c2 l n0 q0 A3 c3 m n1 q1 _ W (Kd.C_below hC2 hW) hc2 (Kd.C_below hC3 hW) hc3 (same_f l m n0 q0 n1 q1 (by omega) (fun x hx => by have := (hsm0.out.2 x hx).1; omega) 3000 (by decide)))
  have hll6 := Lib.hid (fun (W : World) (hW : Below w6.heap.size w6 W) => by have h := like_calls A2 c2 l n0 q0 A2 c2 l n0 q0 W (Kd.C_below hC2 hW) hc2 (Kd.C_below hC2 hW) hc2 (by omega) hmm.out; rw [likeB_refl l n0 q0] at h; exact h)
  have hwy6 := Lib.hid (fun (W : World) (hW : Below w6.heap.size w6 W) => demurralref16_Why.calls 3000 A2 c2 l n0 q0 u s _ W (Kd.C_below hC2 hW) hc2 (why_f l hsm0.out n0 q0 u hn0.2 s 3000 (by decide)))
  have hpr6 := Lib.hid (fun (hx : q0 < 18446744073709551615) (W : World) (hW : Below w6.heap.size w6 W) => demurralref16_Push.calls 3000 _ A2 c2 l n0 q0 u s _ _ _ W (V_of57 (Kd.C_below hC2 hW) hc2) (push_f l hsm0.out n0 q0 u ⟨hq0.1, hx⟩ s 3000 (by decide)))
  obtain ⟨bR, hbR⟩ : ∃ b, relB l n0 q0 = b := ⟨_, rfl⟩
  obtain ⟨bL, hbL⟩ : ∃ b, likeB l m n0 q0 n1 q1 = b := ⟨_, rfl⟩
  rw [hbR] at hrc6 hrr6
  rw [hbL] at hlk6 hsm6
  clear hN2 hN3 hN24 hN25 hN35 hN26 hN36 hK44 hK54 hK55 hK5 hg5 hg6 hHeld hK6 hK46 HB3 HB4 hC2 hC3 hb3 hb4 hbR hbL
  obtain ⟨z0, z1, z2, z3, z4, z5⟩ := hq6.out _ (Below.refl _ w6)
  go_wp2_with fail
  refine hpc.out.mono ?_; rintro e_ w7 ⟨hP, hb7⟩
  clear hpc z0 z1 z2 z3 z4 z5
  have hPW := push_why hP
  clear hP
  rcases hPW with ⟨q, rfl, hqn, hwhy⟩ | ⟨Ap, cp, rfl, hcp, hCp, hwhy⟩
  · have hnz : w7.heap.size < w7.heap.size + 1 := Nat.lt_succ_self _
    go_wp2_with ((with_reducible refine gate_store (t := 25) (p := 9) rfl ?_); go_loud (refine wpList_storeBox rfl rfl 25 (.tmp 9) (.tmp 21) rfl (.agg #[.slice none 0 0, .int .u64 0, .int .u64 0]) [.slice none 0 0, .int .u64 0, .int .u64 0] rfl rfl rfl (by kernel_rfl) (by simp [Value.oneCell']) (heap_alloc_new _ _) rfl ?_; intro w8 hK8 hg8 hs8; have hb8 := (below_alloc (Below.refl w7.heap.size w7) (.cells #[.slice none 0 0, .int .u64 0, .int .u64 0] 25 (0, 0))).grown hg8 (below_alloc (Below.refl w7.heap.size w7) (.cells #[.slice none 0 0, .int .u64 0, .int .u64 0] 25 (0, 0))).size (fun k hk => by cases hk; exact Nat.le_refl _); clear hs8 hg8 hnz))
    have HB68 := Aside0.mk (below_step hb7 hb8)
    have hq8 : Hid (∀ W, Below w8.heap.size w8 W → W.cell? ⟨w.heap.size, 0, none⟩ = some (.slice A2 l.length c2) ∧ W.cell? ⟨w.heap.size, 1, none⟩ = some (.int .u64 n0) ∧ W.cell? ⟨w.heap.size, 2, none⟩ = some (.int .u64 q0) ∧ W.cell? ⟨w.heap.size + 1, 0, none⟩ = some (.slice A3 m.length c3) ∧ W.cell? ⟨w.heap.size + 1, 1, none⟩ = some (.int .u64 n1) ∧ W.cell? ⟨w.heap.size + 1, 2, none⟩ = some (.int .u64 q1)) := Lib.hid fun W hW => hq6.out W (below_step HB68.out hW)
    have hrc := Lib.hid (fun (W : World) (hW : Below w8.heap.size w8 W) => hrc6.out W (below_step HB68.out hW))
    have hrr := Lib.hid (fun (W : World) (hW : Below w8.heap.size w8 W) => hrr6.out W (below_step HB68.out hW))
    have hlk := Lib.hid (fun (W : World) (hW : Below w8.heap.size w8 W) => hlk6.out W (below_step HB68.out hW))
    have hsm := Lib.hid (fun (W : World) (hW : Below w8.heap.size w8 W) => hsm6.out W (below_step HB68.out hW))
    have hll := Lib.hid (fun (W : World) (hW : Below w8.heap.size w8 W) => hll6.out W (below_step HB68.out hW))
    clear hb7 hb8
    refine start_ (n := 24) (S := fun w' => w'.cell? ⟨w.heap.size, 0, none⟩ = some (.slice A2 l.length c2) ∧ w'.cell? ⟨w.heap.size, 1, none⟩ = some (.int .u64 n0) ∧ w'.cell? ⟨w.heap.size, 2, none⟩ = some (.int .u64 q0) ∧ w'.cell? ⟨w.heap.size + 1, 0, none⟩ = some (.slice A3 m.length c3) ∧ w'.cell? ⟨w.heap.size + 1, 1, none⟩ = some (.int .u64 n1) ∧ w'.cell? ⟨w.heap.size + 1, 2, none⟩ = some (.int .u64 q1)) (ds := []) bHLawPushes0 (by kernel_rfl) rfl rfl ⟨(hq8.out _ (Below.refl w8.heap.size w8).drew).1, (hq8.out _ (Below.refl w8.heap.size w8).drew).2.1, (hq8.out _ (Below.refl w8.heap.size w8).drew).2.2.1, (hq8.out _ (Below.refl w8.heap.size w8).drew).2.2.2.1, (hq8.out _ (Below.refl w8.heap.size w8).drew).2.2.2.2.1, (hq8.out _ (Below.refl w8.heap.size w8).drew).2.2.2.2.2⟩ (fun hHeld => ?_)
    refine t_ 0 (some 23) bHLawPushes1 hHeld (hv := by rintro w' ⟨s0, s1, s2, s3, s4, s5⟩; go_simp; with_reducible rfl) (h := ?_)
    refine t_ 2 (some 25) bHLawPushes2 hHeld (hv := by rintro w' ⟨s0, s1, s2, s3, s4, s5⟩; go_simp; with_reducible rfl) (h := ?_)
    refine one_ (i := 1) (N := some 24) bHLawPushes3 rfl rfl (by kernel_rfl) (by decide) (fun K hK => ?_)
    refine goes_ Try.func10 (by kernel_rfl) rfl #[.agg #[.slice A2 l.length c2, .int .u64 n0, .int .u64 q0]] (by rfl) rfl rfl (by simp only [List.map_toArray, List.map_cons, List.map_nil]; rfl) ?_
    with_reducible refine (hrc.out _ (Below.refl w8.heap.size w8).drew).mono ?_
    rintro e_ w9 ⟨rfl, hb9⟩
    refine ⟨_, rfl, ?_⟩
    have HB9 := Aside0.mk (Below.trans (Below.refl w8.heap.size w8).drew hb9)
    clear hb9
    refine hK.out _ _ ⟨(hq8.out _ HB9.out).1, (hq8.out _ HB9.out).2.1, (hq8.out _ HB9.out).2.2.1, (hq8.out _ HB9.out).2.2.2.1, (hq8.out _ HB9.out).2.2.2.2.1, (hq8.out _ HB9.out).2.2.2.2.2⟩ (fun hHeld => ?_)
    clear hK K
    refine norm_ (a' := ?_) ?_ ?_
    rotate_left
    · show Act.put _ (some 24) _ = _
      simp only [Act.put, List.setIfInBounds_toArray, List.set_cons_zero, List.set_cons_succ, i64_w, i32_w]
      rfl
    refine one_ (i := 3) (N := some 26) bHLawPushes4 rfl rfl (by kernel_rfl) (by decide) (fun K hK => ?_)
    refine goes_ Try.func11 (by kernel_rfl) rfl #[.agg #[.slice A2 l.length c2, .int .u64 n0, .int .u64 q0]] (by rfl) rfl rfl (by simp only [List.map_toArray, List.map_cons, List.map_nil]; rfl) ?_
    with_reducible refine (hrr.out _ HB9.out).mono ?_
    rintro e_ w10 ⟨rfl, hb10⟩
    refine ⟨_, rfl, ?_⟩
    have HB10 := Aside0.mk (below_step HB9.out hb10)
    clear hb10
    refine hK.out _ _ ⟨(hq8.out _ HB10.out).1, (hq8.out _ HB10.out).2.1, (hq8.out _ HB10.out).2.2.1, (hq8.out _ HB10.out).2.2.2.1, (hq8.out _ HB10.out).2.2.2.2.1, (hq8.out _ HB10.out).2.2.2.2.2⟩ (fun hHeld => ?_)
    clear hK K
    refine norm_ (a' := ?_) ?_ ?_
    rotate_left
    · show Act.put _ (some 26) _ = _
      simp only [Act.put, List.setIfInBounds_toArray, List.set_cons_zero, List.set_cons_succ, i64_w, i32_w]
      rfl
    refine p_ 4 (some 27) bHLawPushes5 ?_
    refine p_ 5 (some 28) bHLawPushes6 ?_
    refine t_ 6 (some 29) bHLawPushes7 hHeld (hv := by rintro w' ⟨s0, s1, s2, s3, s4, s5⟩; go_simp; with_reducible rfl) (h := ?_)
    refine t_ 7 (some 30) bHLawPushes8 hHeld (hv := by rintro w' ⟨s0, s1, s2, s3, s4, s5⟩; go_simp; with_reducible rfl) (h := ?_)
    refine t_ 9 (some 32) bHLawPushes9 hHeld (hv := by rintro w' ⟨s0, s1, s2, s3, s4, s5⟩; go_simp; with_reducible rfl) (h := ?_)
    refine t_ 10 (some 33) bHLawPushes10 hHeld (hv := by rintro w' ⟨s0, s1, s2, s3, s4, s5⟩; go_simp; with_reducible rfl) (h := ?_)
    refine one_ (i := 8) (N := some 31) bHLawPushes11 rfl rfl (by kernel_rfl) (by decide) (fun K hK => ?_)
    refine goes_ Try.func12 (by kernel_rfl) rfl #[.agg #[.slice A2 l.length c2, .int .u64 n0, .int .u64 q0], .agg #[.slice A3 m.length c3, .int .u64 n1, .int .u64 q1]] (by rfl) rfl rfl (by simp only [List.map_toArray, List.map_cons, List.map_nil]; rfl) ?_
    with_reducible refine (hlk.out _ HB10.out).mono ?_
    rintro e_ w11 ⟨rfl, hb11⟩
    refine ⟨_, rfl, ?_⟩
    have HB11 := Aside0.mk (below_step HB10.out hb11)
    clear hb11
    refine hK.out _ _ ⟨(hq8.out _ HB11.out).1, (hq8.out _ HB11.out).2.1, (hq8.out _ HB11.out).2.2.1, (hq8.out _ HB11.out).2.2.2.1, (hq8.out _ HB11.out).2.2.2.2.1, (hq8.out _ HB11.out).2.2.2.2.2⟩ (fun hHeld => ?_)
    clear hK K
    refine norm_ (a' := ?_) ?_ ?_
    rotate_left
    · show Act.put _ (some 31) _ = _
      simp only [Act.put, List.setIfInBounds_toArray, List.set_cons_zero, List.set_cons_succ, i64_w, i32_w]
      rfl
    refine one_ (i := 11) (N := some 34) bHLawPushes12 rfl rfl (by kernel_rfl) (by decide) (fun K hK => ?_)
    refine goes_ Try.func13 (by kernel_rfl) rfl #[.agg #[.slice A2 l.length c2, .int .u64 n0, .int .u64 q0], .agg #[.slice A3 m.length c3, .int .u64 n1, .int .u64 q1]] (by rfl) rfl rfl (by simp only [List.map_toArray, List.map_cons, List.map_nil]; rfl) ?_
    with_reducible refine (hsm.out _ HB11.out).mono ?_
    rintro e_ w12 ⟨rfl, hb12⟩
    refine ⟨_, rfl, ?_⟩
    have HB12 := Aside0.mk (below_step HB11.out hb12)
    clear hb12
    refine hK.out _ _ ⟨(hq8.out _ HB12.out).1, (hq8.out _ HB12.out).2.1, (hq8.out _ HB12.out).2.2.1, (hq8.out _ HB12.out).2.2.2.1, (hq8.out _ HB12.out).2.2.2.2.1, (hq8.out _ HB12.out).2.2.2.2.2⟩ (fun hHeld => ?_)
    clear hK K
    refine norm_ (a' := ?_) ?_ ?_
    rotate_left
    · show Act.put _ (some 34) _ = _
      simp only [Act.put, List.setIfInBounds_toArray, List.set_cons_zero, List.set_cons_succ, i64_w, i32_w]
      rfl
    refine p_ 12 (some 35) bHLawPushes13 ?_
    refine p_ 13 (some 36) bHLawPushes14 ?_
    refine p_ 14 (some 37) bHLawPushes15 ?_
    refine t_ 15 (some 38) bHLawPushes16 hHeld (hv := by rintro w' ⟨s0, s1, s2, s3, s4, s5⟩; go_simp; with_reducible rfl) (h := ?_)
    refine t_ 16 (some 39) bHLawPushes17 hHeld (hv := by rintro w' ⟨s0, s1, s2, s3, s4, s5⟩; go_simp; with_reducible rfl) (h := ?_)
    refine one_ (i := 17) (N := some 40) bHLawPushes18 rfl rfl (by kernel_rfl) (by decide) (fun K hK => ?_)
    refine goes_ Try.func12 (by kernel_rfl) rfl #[.agg #[.slice A2 l.length c2, .int .u64 n0, .int .u64 q0], .agg #[.slice A2 l.length c2, .int .u64 n0, .int .u64 q0]] (by rfl) rfl rfl (by simp only [List.map_toArray, List.map_cons, List.map_nil]; rfl) ?_
    with_reducible refine (hll.out _ HB12.out).mono ?_
    rintro e_ w13 ⟨rfl, hb13⟩
    refine ⟨_, rfl, ?_⟩
    have HB13 := Aside0.mk (below_step HB12.out hb13)
    clear hb13
    refine hK.out _ _ ⟨(hq8.out _ HB13.out).1, (hq8.out _ HB13.out).2.1, (hq8.out _ HB13.out).2.2.1, (hq8.out _ HB13.out).2.2.2.1, (hq8.out _ HB13.out).2.2.2.2.1, (hq8.out _ HB13.out).2.2.2.2.2⟩ (fun hHeld => ?_)
    clear hK K
    refine norm_ (a' := ?_) ?_ ?_
    rotate_left
    · show Act.put _ (some 40) _ = _
      simp only [Act.put, List.setIfInBounds_toArray, List.set_cons_zero, List.set_cons_succ, i64_w, i32_w]
      rfl
    refine p_ 18 (some 41) bHLawPushes19 ?_
    refine p_ 19 (some 42) bHLawPushes20 ?_
    refine p_ 20 (some 43) bHLawPushes21 ?_
    refine one_ (i := 21) (N := some 44) bHLawPushes22 rfl rfl (by kernel_rfl) (by decide) (fun K hK => ?_)
    refine goes_ Try.func14 (by kernel_rfl) rfl #[] (by rfl) rfl rfl (by simp only [List.map_toArray, List.map_cons, List.map_nil]) ?_
    with_reducible refine (alive_calls _).mono ?_
    rintro e_ w14 ⟨rfl, hb14⟩
    refine ⟨_, rfl, ?_⟩
    have HB14 := Aside0.mk (below_step HB13.out hb14)
    clear hb14
    refine hK.out _ _ ⟨(hq8.out _ HB14.out).1, (hq8.out _ HB14.out).2.1, (hq8.out _ HB14.out).2.2.1, (hq8.out _ HB14.out).2.2.2.1, (hq8.out _ HB14.out).2.2.2.2.1, (hq8.out _ HB14.out).2.2.2.2.2⟩ (fun hHeld => ?_)
    clear hK K
    refine norm_ (a' := ?_) ?_ ?_
    rotate_left
    · show Act.put _ (some 44) _ = _
      simp only [Act.put, List.setIfInBounds_toArray, List.set_cons_zero, List.set_cons_succ, i64_w, i32_w]
      rfl
    refine p_ 22 (some 45) bHLawPushes23 ?_
    refine p_ 23 (some 46) bHLawPushes24 ?_
    refine done_ (by kernel_rfl) ?_
    have HB614 := Aside0.mk (below_step HB68.out HB14.out)
    have hwy := hwy6.out _ HB614.out
    rw [hwhy] at hwy
    replace hwy := Aside0.mk hwy
    clear hrc hrr hlk hsm hll hrc6 hrr6 hlk6 hsm6 hll6 HB9 HB10 HB11 HB12 HB13 hHeld
    obtain ⟨z0, z1, z2, z3, z4, z5⟩ := hq8.out _ HB14.out
    go_wp2_with fail
    refine hwy.out.mono ?_; rintro e_ w15 ⟨rfl, hb15⟩
    clear hwy z0 z1 z2 z3 z4 z5
    have HB15 := Aside0.mk (below_step HB14.out hb15)
    have hK815 := (HB15.out.block _ (blk_lt hK8)).trans hK8
    have hq1 : (q != 0) = true := bne_iff_ne.2 hqn
    have hq2 : (q == 0) = false := beq_eq_false_iff_ne.2 hqn
    obtain ⟨y0, y1, y2⟩ := box3 hK815
    have hsz := demurralref16_Same.calls 3000 none 0 [] 0 0 none 0 [] 0 0 _ w15 (Kd.C_nil _ _) (Nat.le_refl _) (Kd.C_nil _ _) (Nat.le_refl _) (same_f [] [] 0 0 0 0 (by simp) (fun x hx => by cases hx) 3000 (by decide))
    rw [likeB_refl] at hsz
    replace hsz := Aside0.mk hsz
    go_wp2_with fail
    refine hsz.out.mono ?_; rintro e_ w16 ⟨rfl, hb16⟩
    go_wp2
    go_ret
    exact ⟨rfl, below_step HB6.out (below_step (below_step HB68.out HB15.out) hb16)⟩
  · obtain ⟨lp, hlp⟩ : ∃ lp, pushL l n0 q0 u s = lp := ⟨_, rfl⟩
    have hlps := pushL_small hsm0.out n0 q0 u s
    rw [hlp] at hcp hCp hlps ⊢
    rw [hlp] at hpr6
    have hnz : w7.heap.size < w7.heap.size + 1 := Nat.lt_succ_self _
    go_wp2_with ((with_reducible refine gate_store (t := 25) (p := 9) rfl ?_); go_loud (refine wpList_storeBox rfl rfl 25 (.tmp 9) (.tmp 21) rfl (.agg #[.slice Ap lp.length cp, .int .u64 n0, .int .u64 (q0 + 1)]) [.slice Ap lp.length cp, .int .u64 n0, .int .u64 (q0 + 1)] rfl rfl rfl (by kernel_rfl) (by simp [Value.oneCell']) (heap_alloc_new _ _) rfl ?_; intro w8 hK8 hg8 hs8; have hb8 := (below_alloc (Below.refl w7.heap.size w7) (.cells #[.slice none 0 0, .int .u64 0, .int .u64 0] 25 (0, 0))).grown hg8 (below_alloc (Below.refl w7.heap.size w7) (.cells #[.slice none 0 0, .int .u64 0, .int .u64 0] 25 (0, 0))).size (fun k hk => by cases hk; exact Nat.le_refl _); clear hs8 hg8 hnz))
    have HB68 := Aside0.mk (below_step hb7 hb8)
    replace hCp := Aside0.mk (Kd.C_below hCp hb8)
    have hq8 : Hid (∀ W, Below w8.heap.size w8 W → W.cell? ⟨w.heap.size, 0, none⟩ = some (.slice A2 l.length c2) ∧ W.cell? ⟨w.heap.size, 1, none⟩ = some (.int .u64 n0) ∧ W.cell? ⟨w.heap.size, 2, none⟩ = some (.int .u64 q0) ∧ W.cell? ⟨w.heap.size + 1, 0, none⟩ = some (.slice A3 m.length c3) ∧ W.cell? ⟨w.heap.size + 1, 1, none⟩ = some (.int .u64 n1) ∧ W.cell? ⟨w.heap.size + 1, 2, none⟩ = some (.int .u64 q1)) := Lib.hid fun W hW => hq6.out W (below_step HB68.out hW)
    have hrc := Lib.hid (fun (W : World) (hW : Below w8.heap.size w8 W) => hrc6.out W (below_step HB68.out hW))
    have hrr := Lib.hid (fun (W : World) (hW : Below w8.heap.size w8 W) => hrr6.out W (below_step HB68.out hW))
    have hlk := Lib.hid (fun (W : World) (hW : Below w8.heap.size w8 W) => hlk6.out W (below_step HB68.out hW))
    have hsm := Lib.hid (fun (W : World) (hW : Below w8.heap.size w8 W) => hsm6.out W (below_step HB68.out hW))
    have hll := Lib.hid (fun (W : World) (hW : Below w8.heap.size w8 W) => hll6.out W (below_step HB68.out hW))
    clear hb7 hb8
    refine start_ (n := 24) (S := fun w' => w'.cell? ⟨w.heap.size, 0, none⟩ = some (.slice A2 l.length c2) ∧ w'.cell? ⟨w.heap.size, 1, none⟩ = some (.int .u64 n0) ∧ w'.cell? ⟨w.heap.size, 2, none⟩ = some (.int .u64 q0) ∧ w'.cell? ⟨w.heap.size + 1, 0, none⟩ = some (.slice A3 m.length c3) ∧ w'.cell? ⟨w.heap.size + 1, 1, none⟩ = some (.int .u64 n1) ∧ w'.cell? ⟨w.heap.size + 1, 2, none⟩ = some (.int .u64 q1)) (ds := []) bHLawPushes0 (by kernel_rfl) rfl rfl ⟨(hq8.out _ (Below.refl w8.heap.size w8).drew).1, (hq8.out _ (Below.refl w8.heap.size w8).drew).2.1, (hq8.out _ (Below.refl w8.heap.size w8).drew).2.2.1, (hq8.out _ (Below.refl w8.heap.size w8).drew).2.2.2.1, (hq8.out _ (Below.refl w8.heap.size w8).drew).2.2.2.2.1, (hq8.out _ (Below.refl w8.heap.size w8).drew).2.2.2.2.2⟩ (fun hHeld => ?_)
    refine t_ 0 (some 23) bHLawPushes1 hHeld (hv := by rintro w' ⟨s0, s1, s2, s3, s4, s5⟩; go_simp; with_reducible rfl) (h := ?_)
    refine t_ 2 (some 25) bHLawPushes2 hHeld (hv := by rintro w' ⟨s0, s1, s2, s3, s4, s5⟩; go_simp; with_reducible rfl) (h := ?_)
    refine one_ (i := 1) (N := some 24) bHLawPushes3 rfl rfl (by kernel_rfl) (by decide) (fun K hK => ?_)
    refine goes_ Try.func10 (by kernel_rfl) rfl #[.agg #[.slice A2 l.length c2, .int .u64 n0, .int .u64 q0]] (by rfl) rfl rfl (by simp only [List.map_toArray, List.map_cons, List.map_nil]; rfl) ?_
    with_reducible refine (hrc.out _ (Below.refl w8.heap.size w8).drew).mono ?_
    rintro e_ w9 ⟨rfl, hb9⟩
    refine ⟨_, rfl, ?_⟩
    have HB9 := Aside0.mk (Below.trans (Below.refl w8.heap.size w8).drew hb9)
    clear hb9
    refine hK.out _ _ ⟨(hq8.out _ HB9.out).1, (hq8.out _ HB9.out).2.1, (hq8.out _ HB9.out).2.2.1, (hq8.out _ HB9.out).2.2.2.1, (hq8.out _ HB9.out).2.2.2.2.1, (hq8.out _ HB9.out).2.2.2.2.2⟩ (fun hHeld => ?_)
    clear hK K
    refine norm_ (a' := ?_) ?_ ?_
    rotate_left
    · show Act.put _ (some 24) _ = _
      simp only [Act.put, List.setIfInBounds_toArray, List.set_cons_zero, List.set_cons_succ, i64_w, i32_w]
      rfl
    refine one_ (i := 3) (N := some 26) bHLawPushes4 rfl rfl (by kernel_rfl) (by decide) (fun K hK => ?_)
    refine goes_ Try.func11 (by kernel_rfl) rfl #[.agg #[.slice A2 l.length c2, .int .u64 n0, .int .u64 q0]] (by rfl) rfl rfl (by simp only [List.map_toArray, List.map_cons, List.map_nil]; rfl) ?_
    with_reducible refine (hrr.out _ HB9.out).mono ?_
    rintro e_ w10 ⟨rfl, hb10⟩
    refine ⟨_, rfl, ?_⟩
    have HB10 := Aside0.mk (below_step HB9.out hb10)
    clear hb10
    refine hK.out _ _ ⟨(hq8.out _ HB10.out).1, (hq8.out _ HB10.out).2.1, (hq8.out _ HB10.out).2.2.1, (hq8.out _ HB10.out).2.2.2.1, (hq8.out _ HB10.out).2.2.2.2.1, (hq8.out _ HB10.out).2.2.2.2.2⟩ (fun hHeld => ?_)
    clear hK K
    refine norm_ (a' := ?_) ?_ ?_
    rotate_left
    · show Act.put _ (some 26) _ = _
      simp only [Act.put, List.setIfInBounds_toArray, List.set_cons_zero, List.set_cons_succ, i64_w, i32_w]
      rfl
    refine p_ 4 (some 27) bHLawPushes5 ?_
    refine p_ 5 (some 28) bHLawPushes6 ?_
    refine t_ 6 (some 29) bHLawPushes7 hHeld (hv := by rintro w' ⟨s0, s1, s2, s3, s4, s5⟩; go_simp; with_reducible rfl) (h := ?_)
    refine t_ 7 (some 30) bHLawPushes8 hHeld (hv := by rintro w' ⟨s0, s1, s2, s3, s4, s5⟩; go_simp; with_reducible rfl) (h := ?_)
    refine t_ 9 (some 32) bHLawPushes9 hHeld (hv := by rintro w' ⟨s0, s1, s2, s3, s4, s5⟩; go_simp; with_reducible rfl) (h := ?_)
    refine t_ 10 (some 33) bHLawPushes10 hHeld (hv := by rintro w' ⟨s0, s1, s2, s3, s4, s5⟩; go_simp; with_reducible rfl) (h := ?_)
    refine one_ (i := 8) (N := some 31) bHLawPushes11 rfl rfl (by kernel_rfl) (by decide) (fun K hK => ?_)
    refine goes_ Try.func12 (by kernel_rfl) rfl #[.agg #[.slice A2 l.length c2, .int .u64 n0, .int .u64 q0], .agg #[.slice A3 m.length c3, .int .u64 n1, .int .u64 q1]] (by rfl) rfl rfl (by simp only [List.map_toArray, List.map_cons, List.map_nil]; rfl) ?_
    with_reducible refine (hlk.out _ HB10.out).mono ?_
    rintro e_ w11 ⟨rfl, hb11⟩
    refine ⟨_, rfl, ?_⟩
    have HB11 := Aside0.mk (below_step HB10.out hb11)
    clear hb11
    refine hK.out _ _ ⟨(hq8.out _ HB11.out).1, (hq8.out _ HB11.out).2.1, (hq8.out _ HB11.out).2.2.1, (hq8.out _ HB11.out).2.2.2.1, (hq8.out _ HB11.out).2.2.2.2.1, (hq8.out _ HB11.out).2.2.2.2.2⟩ (fun hHeld => ?_)
    clear hK K
    refine norm_ (a' := ?_) ?_ ?_
    rotate_left
    · show Act.put _ (some 31) _ = _
      simp only [Act.put, List.setIfInBounds_toArray, List.set_cons_zero, List.set_cons_succ, i64_w, i32_w]
      rfl
    refine one_ (i := 11) (N := some 34) bHLawPushes12 rfl rfl (by kernel_rfl) (by decide) (fun K hK => ?_)
    refine goes_ Try.func13 (by kernel_rfl) rfl #[.agg #[.slice A2 l.length c2, .int .u64 n0, .int .u64 q0], .agg #[.slice A3 m.length c3, .int .u64 n1, .int .u64 q1]] (by rfl) rfl rfl (by simp only [List.map_toArray, List.map_cons, List.map_nil]; rfl) ?_
    with_reducible refine (hsm.out _ HB11.out).mono ?_
    rintro e_ w12 ⟨rfl, hb12⟩
    refine ⟨_, rfl, ?_⟩
    have HB12 := Aside0.mk (below_step HB11.out hb12)
    clear hb12
    refine hK.out _ _ ⟨(hq8.out _ HB12.out).1, (hq8.out _ HB12.out).2.1, (hq8.out _ HB12.out).2.2.1, (hq8.out _ HB12.out).2.2.2.1, (hq8.out _ HB12.out).2.2.2.2.1, (hq8.out _ HB12.out).2.2.2.2.2⟩ (fun hHeld => ?_)
    clear hK K
    refine norm_ (a' := ?_) ?_ ?_
    rotate_left
    · show Act.put _ (some 34) _ = _
      simp only [Act.put, List.setIfInBounds_toArray, List.set_cons_zero, List.set_cons_succ, i64_w, i32_w]
      rfl
    refine p_ 12 (some 35) bHLawPushes13 ?_
    refine p_ 13 (some 36) bHLawPushes14 ?_
    refine p_ 14 (some 37) bHLawPushes15 ?_
    refine t_ 15 (some 38) bHLawPushes16 hHeld (hv := by rintro w' ⟨s0, s1, s2, s3, s4, s5⟩; go_simp; with_reducible rfl) (h := ?_)
    refine t_ 16 (some 39) bHLawPushes17 hHeld (hv := by rintro w' ⟨s0, s1, s2, s3, s4, s5⟩; go_simp; with_reducible rfl) (h := ?_)
    refine one_ (i := 17) (N := some 40) bHLawPushes18 rfl rfl (by kernel_rfl) (by decide) (fun K hK => ?_)
    refine goes_ Try.func12 (by kernel_rfl) rfl #[.agg #[.slice A2 l.length c2, .int .u64 n0, .int .u64 q0], .agg #[.slice A2 l.length c2, .int .u64 n0, .int .u64 q0]] (by rfl) rfl rfl (by simp only [List.map_toArray, List.map_cons, List.map_nil]; rfl) ?_
    with_reducible refine (hll.out _ HB12.out).mono ?_
    rintro e_ w13 ⟨rfl, hb13⟩
    refine ⟨_, rfl, ?_⟩
    have HB13 := Aside0.mk (below_step HB12.out hb13)
    clear hb13
    refine hK.out _ _ ⟨(hq8.out _ HB13.out).1, (hq8.out _ HB13.out).2.1, (hq8.out _ HB13.out).2.2.1, (hq8.out _ HB13.out).2.2.2.1, (hq8.out _ HB13.out).2.2.2.2.1, (hq8.out _ HB13.out).2.2.2.2.2⟩ (fun hHeld => ?_)
    clear hK K
    refine norm_ (a' := ?_) ?_ ?_
    rotate_left
    · show Act.put _ (some 40) _ = _
      simp only [Act.put, List.setIfInBounds_toArray, List.set_cons_zero, List.set_cons_succ, i64_w, i32_w]
      rfl
    refine p_ 18 (some 41) bHLawPushes19 ?_
    refine p_ 19 (some 42) bHLawPushes20 ?_
    refine p_ 20 (some 43) bHLawPushes21 ?_
    refine one_ (i := 21) (N := some 44) bHLawPushes22 rfl rfl (by kernel_rfl) (by decide) (fun K hK => ?_)
    refine goes_ Try.func14 (by kernel_rfl) rfl #[] (by rfl) rfl rfl (by simp only [List.map_toArray, List.map_cons, List.map_nil]) ?_
    with_reducible refine (alive_calls _).mono ?_
    rintro e_ w14 ⟨rfl, hb14⟩
    refine ⟨_, rfl, ?_⟩
    have HB14 := Aside0.mk (below_step HB13.out hb14)
    clear hb14
    refine hK.out _ _ ⟨(hq8.out _ HB14.out).1, (hq8.out _ HB14.out).2.1, (hq8.out _ HB14.out).2.2.1, (hq8.out _ HB14.out).2.2.2.1, (hq8.out _ HB14.out).2.2.2.2.1, (hq8.out _ HB14.out).2.2.2.2.2⟩ (fun hHeld => ?_)
    clear hK K
    refine norm_ (a' := ?_) ?_ ?_
    rotate_left
    · show Act.put _ (some 44) _ = _
      simp only [Act.put, List.setIfInBounds_toArray, List.set_cons_zero, List.set_cons_succ, i64_w, i32_w]
      rfl
    refine p_ 22 (some 45) bHLawPushes23 ?_
    refine p_ 23 (some 46) bHLawPushes24 ?_
    refine done_ (by kernel_rfl) ?_
    have HB614 := Aside0.mk (below_step HB68.out HB14.out)
    have hwy := hwy6.out _ HB614.out
    rw [hwhy] at hwy
    replace hwy := Aside0.mk hwy
    clear hrc hrr hlk hsm hll hrc6 hrr6 hlk6 hsm6 hll6 HB9 HB10 HB11 HB12 HB13 hHeld
    obtain ⟨z0, z1, z2, z3, z4, z5⟩ := hq8.out _ HB14.out
    go_wp2_with fail
    refine hwy.out.mono ?_; rintro e_ w15 ⟨rfl, hb15⟩
    clear hwy z0 z1 z2 z3 z4 z5
    have HB15 := Aside0.mk (below_step HB14.out hb15)
    have hK815 := (HB15.out.block _ (blk_lt hK8)).trans hK8
    have hq15 := below_step HB68.out HB15.out
    have hqp : Hid (∀ W, Below w15.heap.size w15 W → W.cell? ⟨w7.heap.size, 0, none⟩ = some (.slice Ap lp.length cp) ∧ W.cell? ⟨w7.heap.size, 1, none⟩ = some (.int .u64 n0) ∧ W.cell? ⟨w7.heap.size, 2, none⟩ = some (.int .u64 (q0 + 1)) ∧ W.cell? ⟨w.heap.size, 0, none⟩ = some (.slice A2 l.length c2) ∧ W.cell? ⟨w.heap.size, 1, none⟩ = some (.int .u64 n0) ∧ W.cell? ⟨w.heap.size, 2, none⟩ = some (.int .u64 q0)) := Lib.hid fun W hW => by
      obtain ⟨a, b, c⟩ := box3 ((hW.block _ (blk_lt hK815)).trans hK815)
      obtain ⟨d, e, f, _⟩ := hq8.out W (below_step HB15.out hW)
      exact ⟨a, b, c, d, e, f⟩
    have hpc : Hid (∀ W, Below w15.heap.size w15 W → Calls Try.prog 16 #[.agg #[.slice A2 l.length c2, .int .u64 n0, .int .u64 q0], .int .u64 u, .string s] W fun e w' => ∃ A c, e = .returned (.agg #[.slice A lp.length c, .int .u64 n0, .int .u64 (q0 + 1)]) ∧ lp.length ≤ c ∧ k57.C w' A lp.length lp ∧ Below W.heap.size W w') := Lib.hid fun W hW => (hpr6.out (by have := why_lt hwhy; omega) W (below_step hq15 hW)).mono (by
      rintro e w' ⟨v, rfl, hN, hb⟩
      obtain ⟨A, c, rfl, h1, h2⟩ := Kd.N_reads hN
      exact ⟨A, c, rfl, h1, h2, hb⟩)
    have hsp : Hid (∀ (W : World) (A : Option Addr) (c : Nat), Below w15.heap.size w15 W → lp.length ≤ c → k57.C W A lp.length lp → Calls Try.prog 13 #[.agg #[.slice Ap lp.length cp, .int .u64 n0, .int .u64 (q0 + 1)], .agg #[.slice A lp.length c, .int .u64 n0, .int .u64 (q0 + 1)]] W fun e w' => e = .returned (.bool true) ∧ Below W.heap.size W w') := Lib.hid fun W A c hW h1 h2 => by
      have h := demurralref16_Same.calls 3000 Ap cp lp n0 (q0 + 1) A c lp n0 (q0 + 1) _ W (Kd.C_below hCp.out (below_step HB15.out hW)) hcp h2 h1 (same_f lp lp n0 (q0 + 1) n0 (q0 + 1) (by omega) hlps.2 3000 (by decide))
      rw [likeB_refl] at h
      exact h
    replace hlps := Lib.hid hlps
    replace hq15 := Aside0.mk hq15
    go_wp2
    refine start_ (n := 11) (S := fun w' => w'.cell? ⟨w7.heap.size, 0, none⟩ = some (.slice Ap lp.length cp) ∧ w'.cell? ⟨w7.heap.size, 1, none⟩ = some (.int .u64 n0) ∧ w'.cell? ⟨w7.heap.size, 2, none⟩ = some (.int .u64 (q0 + 1)) ∧ w'.cell? ⟨w.heap.size, 0, none⟩ = some (.slice A2 l.length c2) ∧ w'.cell? ⟨w.heap.size, 1, none⟩ = some (.int .u64 n0) ∧ w'.cell? ⟨w.heap.size, 2, none⟩ = some (.int .u64 q0)) (ds := []) #[false, false, false, false, false, false, false, false, false, false, false] (by kernel_rfl) rfl rfl ⟨(hqp.out _ (Below.refl w15.heap.size w15).drew).1, (hqp.out _ (Below.refl w15.heap.size w15).drew).2.1, (hqp.out _ (Below.refl w15.heap.size w15).drew).2.2.1, (hqp.out _ (Below.refl w15.heap.size w15).drew).2.2.2.1, (hqp.out _ (Below.refl w15.heap.size w15).drew).2.2.2.2.1, (hqp.out _ (Below.refl w15.heap.size w15).drew).2.2.2.2.2⟩ (fun hHeld => ?_)
    refine p_ 0 (some 61) #[true, false, false, false, false, false, false, false, false, false, false] ?_
    refine p_ 1 (some 62) #[true, true, false, false, false, false, false, false, false, false, false] ?_
    refine p_ 2 (some 63) #[true, true, true, false, false, false, false, false, false, false, false] ?_
    refine p_ 5 (some 66) #[true, true, true, false, false, true, false, false, false, false, false] ?_
    refine p_ 6 (some 67) #[true, true, true, false, false, true, true, false, false, false, false] ?_
    refine t_ 3 (some 64) #[true, true, true, true, false, true, true, false, false, false, false] hHeld (hv := by rintro w' ⟨s0, s1, s2, s3, s4, s5⟩; go_simp; with_reducible rfl) (h := ?_)
    refine t_ 4 (some 65) #[true, true, true, true, true, true, true, false, false, false, false] hHeld (hv := by rintro w' ⟨s0, s1, s2, s3, s4, s5⟩; go_simp; with_reducible rfl) (h := ?_)
    refine one_ (i := 7) (N := some 68) #[true, true, true, true, true, true, true, true, false, false, false] rfl rfl (by kernel_rfl) (by decide) (fun K hK => ?_)
    refine goes_ Try.func16 (by kernel_rfl) rfl #[.agg #[.slice A2 l.length c2, .int .u64 n0, .int .u64 q0], .int .u64 u, .string s] (by rfl) rfl rfl (by simp only [List.map_toArray, List.map_cons, List.map_nil]; rfl) ?_
    with_reducible refine (hpc.out _ (Below.refl w15.heap.size w15).drew).mono ?_
    rintro e_ w16 ⟨Aq, cq, rfl, hcq, hCq, hb16⟩
    refine ⟨_, rfl, ?_⟩
    have HB16 := Aside0.mk (Below.trans (Below.refl w15.heap.size w15).drew hb16)
    clear hb16
    refine hK.out _ _ ⟨(hqp.out _ HB16.out).1, (hqp.out _ HB16.out).2.1, (hqp.out _ HB16.out).2.2.1, (hqp.out _ HB16.out).2.2.2.1, (hqp.out _ HB16.out).2.2.2.2.1, (hqp.out _ HB16.out).2.2.2.2.2⟩ (fun hHeld => ?_)
    clear hK K
    refine norm_ (a' := ?_) ?_ ?_
    rotate_left
    · show Act.put _ (some 68) _ = _
      simp only [Act.put, List.setIfInBounds_toArray, List.set_cons_zero, List.set_cons_succ, i64_w, i32_w]
      rfl
    refine one_ (i := 8) (N := some 69) #[true, true, true, true, true, true, true, true, true, false, false] rfl rfl (by kernel_rfl) (by decide) (fun K hK => ?_)
    refine goes_ Try.func13 (by kernel_rfl) rfl #[.agg #[.slice Ap lp.length cp, .int .u64 n0, .int .u64 (q0 + 1)], .agg #[.slice Aq lp.length cq, .int .u64 n0, .int .u64 (q0 + 1)]] (by rfl) rfl rfl (by simp only [List.map_toArray, List.map_cons, List.map_nil]; rfl) ?_
    with_reducible refine (hsp.out _ Aq cq HB16.out hcq hCq).mono ?_
    rintro e_ w17 ⟨rfl, hb17⟩
    refine ⟨_, rfl, ?_⟩
    have HB17 := Aside0.mk (below_step HB16.out hb17)
    clear hb17
    refine hK.out _ _ ⟨(hqp.out _ HB17.out).1, (hqp.out _ HB17.out).2.1, (hqp.out _ HB17.out).2.2.1, (hqp.out _ HB17.out).2.2.2.1, (hqp.out _ HB17.out).2.2.2.2.1, (hqp.out _ HB17.out).2.2.2.2.2⟩ (fun hHeld => ?_)
    clear hK K
    refine norm_ (a' := ?_) ?_ ?_
    rotate_left
    · show Act.put _ (some 69) _ = _
      simp only [Act.put, List.setIfInBounds_toArray, List.set_cons_zero, List.set_cons_succ, i64_w, i32_w]
      rfl
    refine p_ 9 (some 70) #[true, true, true, true, true, true, true, true, true, true, false] ?_
    refine p_ 10 (some 8) #[true, true, true, true, true, true, true, true, true, true, true] ?_
    refine done_ (by kernel_rfl) ?_
    go_wp2
    go_ret
    exact ⟨rfl, below_step HB6.out (below_step hq15.out HB17.out)⟩
theorem pushes_walk (x0 : S25) (A0 : Option Addr) (c0 : Nat) (x1 : S25) (A1 : Option Addr) (c1 : Nat) (u : Int) (s : ByteArray) (w : World) (hr0 : Kd.C k57 w A0 x0.f0.length x0.f0) (hc0 : x0.f0.length ≤ c0) (hr1 : Kd.C k57 w A1 x1.f0.length x1.f0) (hc1 : x1.f0.length ≤ c1) (g0 : good25 x0) (g1 : good25 x1) (w2 : (Lit.int .u64 u).wf = true) (w3 : s.size ≤ reachBytes) :
    Calls Try.prog 3 #[rv A0 x0.f0.length c0 x0.f1 x0.f2, rv A1 x1.f0.length c1 x1.f1 x1.f2, .int .u64 u, .string s] w fun e w' => e = .returned (.bool true) ∧ Below w.heap.size w w' := by
  have hb1 := bounds_u64 g0.2.1
  have hb2 := bounds_u64 g0.2.2
  exact pushes_core A0 c0 x0.f0 x0.f1 x0.f2 A1 c1 x1.f0 x1.f1 x1.f2 u s w hr0 hc0 hr1 hc1 g0.1 g1.1 ⟨hb1.1, by omega⟩ ⟨hb2.1, by omega⟩
end Go.Proofs.Ytbmfcikjhnnnbaa.Q
