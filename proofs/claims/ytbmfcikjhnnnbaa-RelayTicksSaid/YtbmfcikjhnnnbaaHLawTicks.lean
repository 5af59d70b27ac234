/- RelayTicks: any relay later is as the document says, or refused.
   Conditions: the relay is read as such. -/
import Derived.Test.YtbmfcikjhnnnbaaHStep
import Derived.Test.YtbmfcikjhnnnbaaHPure3
import Derived.Test.YtbmfcikjhnnnbaaQx118
namespace Go.Proofs.Ytbmfcikjhnnnbaa.Q
open Go.RowKit Go.Proofs.YtbmfcikjhnnnbaaW.PrintWords Go.Proofs.YtbmfcikjhnnnbaaW.PrintLast Go.Proofs.YtbmfcikjhnnnbaaW.PrintMore
set_option linter.unusedVariables false
set_option linter.unusedSimpArgs false
abbrev bHLawTicks0 : Array Bool := #[false, false, false, false, false, false, false, false, false, false, false, false, false]
abbrev bHLawTicks1 : Array Bool := #[true, false, false, false, false, false, false, false, false, false, false, false, false]
abbrev bHLawTicks2 : Array Bool := #[true, true, false, false, false, false, false, false, false, false, false, false, false]
abbrev bHLawTicks3 : Array Bool := #[true, true, true, false, false, false, false, false, false, false, false, false, false]
abbrev bHLawTicks4 : Array Bool := #[true, true, true, true, false, false, false, false, false, false, false, false, false]
abbrev bHLawTicks5 : Array Bool := #[true, true, true, true, true, false, false, false, false, false, false, false, false]
abbrev bHLawTicks6 : Array Bool := #[true, true, true, true, true, true, false, false, false, false, false, false, false]
abbrev bHLawTicks7 : Array Bool := #[true, true, true, true, true, true, false, false, true, false, false, false, false]
abbrev bHLawTicks8 : Array Bool := #[true, true, true, true, true, true, true, false, true, false, false, false, false]
abbrev bHLawTicks9 : Array Bool := #[true, true, true, true, true, true, true, true, true, false, false, false, false]
abbrev bHLawTicks10 : Array Bool := #[true, true, true, true, true, true, true, true, true, true, false, false, false]
abbrev bHLawTicks11 : Array Bool := #[true, true, true, true, true, true, true, true, true, true, true, false, false]
abbrev bHLawTicks12 : Array Bool := #[true, true, true, true, true, true, true, true, true, true, true, true, false]
abbrev bHLawTicks13 : Array Bool := #[true, true, true, true, true, true, true, true, true, true, true, true, true]

theorem tick_l1 (x5 : Int) (L : List S57) (n j : Int) (y y2 : List S54) (hy : y.length ≤ 1000) (out : List S57) (ho : out.length ≤ 1000000) (a b u : Int) : ∀ (m k i : Nat) (x9 : List S54), i + m = y.length → x9.length + m ≤ 1000 →
    demurralref16_Tick.l1 (k + m + 1) x5 x9 L n j y (y.length : Int) (i : Int) out a b u y2 = demurralref16_Tick.l0 k x5 L n (wrap64 (j + 1)) (out ++ if 0 < (x9 ++ (y.drop i).filter fun m => !oldB x5 m).length then [⟨u, x9 ++ (y.drop i).filter fun m => !oldB x5 m⟩] else []) a b := by
  intro m
  induction m with
  | zero =>
    intro k i x9 hi hx
    rw [demurralref16_Tick.l1, if_neg (by omega), List.drop_eq_nil_of_le (by omega), List.filter_nil, List.append_nil]
    by_cases e : 0 < x9.length
    · rw [if_pos (show (x9.length : Int) > 0 by omega), if_pos (by omega), if_pos e]
    · rw [if_neg (show ¬ (x9.length : Int) > 0 by omega), if_neg e, List.append_nil]
  | succ m ih =>
    intro k i x9 hi hx
    rw [show k + (m + 1) + 1 = (k + m + 1) + 1 by omega, demurralref16_Tick.l1, if_pos (by omega), if_pos (by omega), if_pos (by omega), nx i (by omega), drop_rd54 y i (by omega), List.filter_cons]
    unfold oldB at ih ⊢
    by_cases e : IntKind.u64.wrap (x5 - (rd_T54 y (i : Int)).f2) ≤ 50
    · rw [if_pos e, if_pos (by omega), ih k (i + 1) _ (by omega) (by rw [List.length_append, List.length_singleton]; omega), decide_eq_false (by omega), if_pos (show (!false) = true from rfl)]
      simp only [List.append_assoc, List.singleton_append]
    · rw [if_neg e, ih k (i + 1) x9 (by omega) (by omega), decide_eq_true (by omega), if_neg (show ¬ (!true) = true by decide)]
theorem tick_l0 (x5 : Int) (l : List S57) (hl : l.length ≤ 1000000) (hs : ∀ b ∈ l, b.f1.length ≤ 18) (a b : Int) : ∀ (m k i : Nat) (out : List S57), i + m = l.length → m * 21 + 1 ≤ k → out.length + m ≤ 1000000 →
    demurralref16_Tick.l0 k x5 l (l.length : Int) (i : Int) out a b = some (out ++ withoutL (fun _ m => oldB x5 m) (l.drop i), a, b) := by
  intro m
  induction m with
  | zero =>
    intro k i out hi hk ho
    obtain ⟨k, rfl⟩ : ∃ k', k = k' + 1 := ⟨k - 1, by omega⟩
    rw [demurralref16_Tick.l0, if_neg (by omega), List.drop_eq_nil_of_le (by omega)]
    simp [withoutL]
  | succ m ih =>
    intro k i out hi hk ho
    have hb := hs _ (rd57_mem l i (by omega))
    obtain ⟨k, rfl⟩ : ∃ k', k = (k' + (rd_T57 l (i : Int)).f1.length + 1) + 1 := ⟨k - (rd_T57 l (i : Int)).f1.length - 2, by omega⟩
    have ho2 : ∀ z : List S57, z.length ≤ 1 → (out ++ z).length + m ≤ 1000000 := fun z hz => by rw [List.length_append]; omega
    rw [demurralref16_Tick.l0, if_pos (by omega), if_pos (by omega), if_pos (by omega), show (0 : Int) = ((0 : Nat) : Int) from rfl, tick_l1 x5 l _ _ _ _ (by omega) out (by omega) a b _ (rd_T57 l (i : Int)).f1.length k 0 [] (by omega) (by simp; omega), nx i (by omega), ih k (i + 1) _ (by omega) (by omega) (ho2 _ (by split <;> simp)), drop_rd57 l i (by omega), withoutL_cons, List.append_assoc]
    simp only [List.drop_zero, List.nil_append]
    rfl
theorem tick_f (l : List S57) (hs : smallR l) (now next ticks : Int) (k : Nat) (hk : 500 ≤ k) : demurralref16_Tick.f k l now next ticks = some (withoutL (fun _ m => oldB (IntKind.u64.wrap (now + ticks)) m) l, IntKind.u64.wrap (now + ticks), next) := by
  have h10 := hs.1
  unfold demurralref16_Tick.f
  rw [show (0 : Int) = ((0 : Nat) : Int) from rfl, tick_l0 _ l (by omega) (fun b hb => (hs.2 b hb).1) _ _ l.length k 0 [] (by omega) (by omega) (by simp; omega)]
  rfl
set_option maxHeartbeats 8000000 in
set_option maxRecDepth 100000 in
theorem ticks_core (A0 : Option Addr) (c0 : Nat) (l0 : List S57) (n0 q0 tk : Int) (w : World) (hr0 : Kd.C k57 w A0 l0.length l0) (hc0 : l0.length ≤ c0) (g0 : good22 l0) (hn0 : 0 ≤ n0 ∧ n0 ≤ 18446744073709551615) (htk : 0 ≤ tk ∧ tk ≤ 18446744073709551615) :
    Calls Try.prog 4 #[rv A0 l0.length c0 n0 q0, .int .u64 tk] w fun e w' => e = .returned (.bool true) ∧ Below w.heap.size w w' := by
  have hsm0 := small_few g0
  obtain ⟨l, hl⟩ : ∃ l, fewL l0 = l := ⟨_, rfl⟩
  rw [hl] at hsm0
  have hl10 := hsm0.1
  have hwf := Lib.hid (small_wf hsm0)
  replace hsm0 := Lib.hid hsm0
  clear g0
  obtain ⟨w1, hw1⟩ : ∃ w1, w.alloc (.cells #[.slice A0 l0.length c0, .int .u64 n0, .int .u64 q0] 25 (0, 0)) = w1 := ⟨_, rfl⟩
  have hb1 : Below w.heap.size w w1 := by rw [← hw1]; exact below_alloc (Below.refl _ _) _
  have hs1 : w1.heap.size = w.heap.size + 1 := by rw [← hw1]; simp
  have hK1 : w1.heap[w.heap.size]? = some (.cells #[.slice A0 l0.length c0, .int .u64 n0, .int .u64 q0] 25 (0, 0)) := by rw [← hw1]; exact heap_alloc_new _ _
  have hfc := Aside0.mk (few_at A0 c0 l0 l n0 q0 w w1 hr0 hc0 hb1 hl)
  obtain ⟨z0, z1, z2⟩ := box3 hK1
  replace hs1 := Lib.hid hs1
  replace hl := Lib.hid hl
  go_enter Try.func4, Try.ntmps4
  go_wp2_with fail
  refine hfc.out.mono ?_; rintro e_ w2 ⟨A2, c2, rfl, hc2, hN2, hb2⟩
  have hK2 := (hb2.block _ (blk_lt hK1)).trans hK1
  have hB2 := Aside0.mk (below_step hb1 hb2)
  have hz2 := Lib.hid hb2.size
  clear hfc z0 z1 z2 hK1 hb1 hb2
  obtain ⟨z0, z1, z2⟩ := box3 hK2
  go_wp2_with ((with_reducible refine gate_store (t := 25) (p := 2) rfl ?_); go_loud (refine wpList_storeBox rfl rfl 25 (.tmp 2) (.tmp 8) rfl (rv A2 l.length c2 n0 q0) [.slice A2 l.length c2, .int .u64 n0, .int .u64 q0] rfl rfl rfl (by kernel_rfl) (by simp [Value.oneCell']) hK2 rfl ?_); intro w3 hK3 hg3 hs3; clear z0 z1 z2; obtain ⟨z0, z1, z2⟩ := box3 hK3; have hN3 := Kd.N_grown hN2 hg3 (fun k hk e => by injection e with e; have := hs1.out; rcases hk with h | h <;> omega); have hC3 := (Kd.N_reads' hN3).2.2; have hT := Aside0.mk (tick_calls A2 c2 l n0 q0 tk w3 hC3 hc2 (by omega) hwf.out hn0 htk))
  have hB3 := Aside0.mk (hB2.out.grown hg3 hB2.out.size (fun k hk => by cases hk; exact Nat.le_refl _))
  refine hT.out.mono ?_; rintro e_ w4 ⟨hE, hb4⟩
  have hK4 := (hb4.block _ (blk_lt hK3)).trans hK3
  have hC4 := Aside0.mk (Kd.C_below hC3 hb4)
  have hB4 := Aside0.mk (below_step hB3.out hb4)
  clear hT z0 z1 z2 hg3 hs3 hK2 hK3 hN2 hN3 hC3 hb4
  obtain ⟨w5, hw5⟩ : ∃ w5, w4.alloc (.cells #[.slice none 0 0, .int .u64 0, .int .u64 0] 25 (0, 0)) = w5 := ⟨_, rfl⟩
  have hb5 : Below w4.heap.size w4 w5 := by rw [← hw5]; exact below_alloc (Below.refl _ _) _
  have hK5 : w5.heap[w4.heap.size]? = some (.cells #[.slice none 0 0, .int .u64 0, .int .u64 0] 25 (0, 0)) := by rw [← hw5]; exact heap_alloc_new _ _
  have hrr : Hid (∀ W, Below w4.heap.size w4 W → Calls Try.prog 11 #[rv A2 l.length c2 n0 q0] W fun e w' => e = .returned (.bool (relB l n0 q0)) ∧ Below W.heap.size W w') := Lib.hid fun W hW => demurralref16_Right.calls 3000 A2 c2 l n0 q0 _ W (Kd.C_below hC4.out hW) hc2 (right_f l hsm0.out n0 q0 hn0.2 3000 (by decide))
  have hsz : Hid (∀ W, Calls Try.prog 13 #[zerR, zerR] W fun e w' => e = .returned (.bool true) ∧ Below W.heap.size W w') := Lib.hid fun W => by
    have h := demurralref16_Same.calls 3000 none 0 [] 0 0 none 0 [] 0 0 _ W (Kd.C_nil _ _) (Nat.le_refl _) (Kd.C_nil _ _) (Nat.le_refl _) (same_f [] [] 0 0 0 0 (by simp) (fun x hx => by cases hx) 3000 (by decide))
    rw [likeB_refl] at h
    exact h
  rcases hE with ⟨hR, rfl⟩ | ⟨hR, hbig, rfl⟩ | ⟨hR, ht, hsum, lp, Ap, cp, hlp, rfl, hcp, hCp⟩
  · go_wp2_with ((with_reducible refine gate_store (t := 25) (p := 5) rfl ?_); go_loud (refine wpList_storeBox rfl rfl 25 (.tmp 5) (.tmp 13) rfl zerR [.slice none 0 0, .int .u64 0, .int .u64 0] rfl rfl rfl (by kernel_rfl) (by simp [Value.oneCell']) hK5 rfl ?_); intro w6 hK6 hg6 hs6; have hb6 := Aside0.mk (hb5.grown hg6 hb5.size (fun k hk => by cases hk; exact Nat.le_refl _)); have hK46 := (hb6.out.block _ (blk_lt hK4)).trans hK4; obtain ⟨z0, z1, z2⟩ := box3 hK46; have hc := Aside0.mk (hrr.out w6 hb6.out); rw [hR] at hc)
    refine hc.out.mono ?_; rintro e_ w7 ⟨rfl, hb7⟩
    have hK67 := (hb7.block _ (blk_lt hK6)).trans hK6
    have hB7 := Aside0.mk (below_step (below_step hB4.out hb6.out) hb7)
    clear hc z0 z1 z2 hg6 hs6 hb7
    go_wp2_with fail
    refine (alive_calls _).mono ?_; rintro e_ w8 ⟨rfl, hb8⟩
    have hB8 := Aside0.mk (below_step hB7.out hb8)
    obtain ⟨z0, z1, z2⟩ := box3 ((hb8.block _ (blk_lt hK67)).trans hK67)
    clear hb8
    go_wp2_with fail
    refine (hsz.out _).mono ?_; rintro e_ w9 ⟨rfl, hb9⟩
    go_wp2
    go_ret
    exact ⟨rfl, below_step hB8.out hb9⟩
  · go_wp2_with ((with_reducible refine gate_store (t := 25) (p := 5) rfl ?_); go_loud (refine wpList_storeBox rfl rfl 25 (.tmp 5) (.tmp 13) rfl zerR [.slice none 0 0, .int .u64 0, .int .u64 0] rfl rfl rfl (by kernel_rfl) (by simp [Value.oneCell']) hK5 rfl ?_); intro w6 hK6 hg6 hs6; have hb6 := Aside0.mk (hb5.grown hg6 hb5.size (fun k hk => by cases hk; exact Nat.le_refl _)); have hK46 := (hb6.out.block _ (blk_lt hK4)).trans hK4; obtain ⟨z0, z1, z2⟩ := box3 hK46; have hc := Aside0.mk (hrr.out w6 hb6.out); rw [hR] at hc)
    refine hc.out.mono ?_; rintro e_ w7 ⟨rfl, hb7⟩
    have hK67 := (hb7.block _ (blk_lt hK6)).trans hK6
    have hB7 := Aside0.mk (below_step (below_step hB4.out hb6.out) hb7)
    have hK47 := (hb7.block _ (blk_lt hK46)).trans hK46
    have hn2 := rel_now hR
    clear hc z0 z1 z2 hg6 hs6 hb7
    obtain ⟨y0, y1, y2⟩ := box3 hK47
    have hgo : Hid (∀ W, Below w7.heap.size w7 W → W.cell? ⟨w4.heap.size, 0, none⟩ = some (.slice none 0 0) ∧ W.cell? ⟨w4.heap.size, 1, none⟩ = some (.int .u64 0) ∧ W.cell? ⟨w4.heap.size, 2, none⟩ = some (.int .u64 0)) := Lib.hid fun W hW => box3 ((hW.block _ (blk_lt hK67)).trans hK67)
    by_cases ht : 1000 < tk
    · have e1 : decide (1000 < tk) = true := decide_eq_true ht
      clear hbig
      go_wp2_with fail
      refine (alive_calls _).mono ?_; rintro e_ w8 ⟨rfl, hb8⟩
      have hB8 := Aside0.mk (below_step hB7.out hb8)
      obtain ⟨z0, z1, z2⟩ := hgo.out _ hb8
      clear hb8
      go_wp2_with fail
      refine (hsz.out _).mono ?_; rintro e_ w9 ⟨rfl, hb9⟩
      go_wp2
      go_ret
      exact ⟨rfl, below_step hB8.out hb9⟩
    · have e1 : decide (1000 < tk) = false := decide_eq_false ht
      have hwp : IntKind.u64.wrap (n0 + tk) = n0 + tk := by show (n0 + tk) % 18446744073709551616 = n0 + tk; omega
      have e2 : decide (4611686018427387904 ≤ IntKind.u64.wrap (n0 + tk)) = true := by rw [hwp]; exact decide_eq_true (by omega)
      have e3 : decide (4611686018427387904 ≤ n0 + tk) = true := decide_eq_true (by omega)
      clear hbig hwp
      go_wp2_with fail
      refine (alive_calls _).mono ?_; rintro e_ w8 ⟨rfl, hb8⟩
      have hB8 := Aside0.mk (below_step hB7.out hb8)
      obtain ⟨z0, z1, z2⟩ := hgo.out _ hb8
      clear hb8
      go_wp2_with fail
      refine (hsz.out _).mono ?_; rintro e_ w9 ⟨rfl, hb9⟩
      go_wp2
      go_ret
      exact ⟨rfl, below_step hB8.out hb9⟩
  · have hlps := withoutL_small hsm0.out (fun _ m => oldB (n0 + tk) m)
    rw [hlp] at hlps
    have hn2 := rel_now hR
    have hwp : IntKind.u64.wrap (n0 + tk) = n0 + tk := by show (n0 + tk) % 18446744073709551616 = n0 + tk; omega
    have htf := tick_f l hsm0.out n0 q0 tk 500 (Nat.le_refl _)
    rw [hwp, hlp] at htf
    have htk6 : Hid (∀ W, Below w4.heap.size w4 W → Calls Try.prog 18 #[rv A2 l.length c2 n0 q0, .int .u64 tk] W fun e w' => ∃ A c, e = .returned (rv A lp.length c (n0 + tk) q0) ∧ lp.length ≤ c ∧ k57.C w' A lp.length lp ∧ Below W.heap.size W w') := Lib.hid fun W hW => (demurralref16_Tick.calls 500 A2 c2 l n0 q0 tk _ _ _ W (Kd.C_below hC4.out hW) hc2 htf).mono (by
      rintro e w' ⟨v, rfl, hS, hb⟩
      obtain ⟨A, c, rfl, h1, h2⟩ := Kd.S_reads hS
      exact ⟨A, c, rfl, h1, h2, hb⟩)
    have hsm6 : Hid (∀ W A c, Below w4.heap.size w4 W → lp.length ≤ c → k57.C W A lp.length lp → Calls Try.prog 13 #[rv Ap lp.length cp (n0 + tk) q0, rv A lp.length c (n0 + tk) q0] W fun e w' => e = .returned (.bool true) ∧ Below W.heap.size W w') := Lib.hid fun W A c hW h1 h2 => by
      have h := demurralref16_Same.calls 3000 Ap cp lp (n0 + tk) q0 A c lp (n0 + tk) q0 _ W (Kd.C_below hCp hW) hcp h2 h1 (same_f lp lp (n0 + tk) q0 (n0 + tk) q0 hlps.1 hlps.2 3000 (by decide))
      rw [likeB_refl] at h
      exact h
    have e1 : decide (1000 < tk) = false := decide_eq_false (by omega)
    have e2 : decide (4611686018427387904 ≤ IntKind.u64.wrap (n0 + tk)) = false := by rw [hwp]; exact decide_eq_false (by omega)
    have e3 : decide (4611686018427387904 ≤ n0 + tk) = false := decide_eq_false (by omega)
    clear hwp htf hlps hCp
    replace hlp := Lib.hid hlp
    go_wp2_with ((with_reducible refine gate_store (t := 25) (p := 5) rfl ?_); go_loud (refine wpList_storeBox rfl rfl 25 (.tmp 5) (.tmp 13) rfl (rv Ap lp.length cp (n0 + tk) q0) [.slice Ap lp.length cp, .int .u64 (n0 + tk), .int .u64 q0] rfl rfl rfl (by kernel_rfl) (by simp [Value.oneCell']) hK5 rfl ?_); intro w6 hK6 hg6 hs6; have hb6 := Aside0.mk (hb5.grown hg6 hb5.size (fun k hk => by cases hk; exact Nat.le_refl _)); have hK46 := (hb6.out.block _ (blk_lt hK4)).trans hK4; obtain ⟨z0, z1, z2⟩ := box3 hK46; have hc := Aside0.mk (hrr.out w6 hb6.out); rw [hR] at hc)
    refine hc.out.mono ?_; rintro e_ w7 ⟨rfl, hb7⟩
    have hK67 := (hb7.block _ (blk_lt hK6)).trans hK6
    have hK47 := (hb7.block _ (blk_lt hK46)).trans hK46
    have hb47 := Aside0.mk (below_step hb6.out hb7)
    have hB7 := Aside0.mk (below_step hB4.out hb47.out)
    clear hc z0 z1 z2 hg6 hs6 hb7 hK6 hK46 hb6
    obtain ⟨z0, z1, z2⟩ := box3 hK47
    have hq6 : Hid (∀ W, Below w7.heap.size w7 W → W.cell? ⟨w4.heap.size, 0, none⟩ = some (.slice Ap lp.length cp) ∧ W.cell? ⟨w4.heap.size, 1, none⟩ = some (.int .u64 (n0 + tk)) ∧ W.cell? ⟨w4.heap.size, 2, none⟩ = some (.int .u64 q0) ∧ W.cell? ⟨w.heap.size, 0, none⟩ = some (.slice A2 l.length c2) ∧ W.cell? ⟨w.heap.size, 1, none⟩ = some (.int .u64 n0) ∧ W.cell? ⟨w.heap.size, 2, none⟩ = some (.int .u64 q0)) := Lib.hid fun W hW => by
      obtain ⟨a, b, c⟩ := box3 ((hW.block _ (blk_lt hK67)).trans hK67)
      obtain ⟨d, e, f⟩ := box3 ((hW.block _ (blk_lt hK47)).trans hK47)
      exact ⟨a, b, c, d, e, f⟩
    replace htk6 : Hid (∀ W, Below w7.heap.size w7 W → Calls Try.prog 18 #[rv A2 l.length c2 n0 q0, .int .u64 tk] W fun e w' => ∃ A c, e = .returned (rv A lp.length c (n0 + tk) q0) ∧ lp.length ≤ c ∧ k57.C w' A lp.length lp ∧ Below W.heap.size W w') := Lib.hid fun W hW => htk6.out W (below_step hb47.out hW)
    replace hsm6 : Hid (∀ W A c, Below w7.heap.size w7 W → lp.length ≤ c → k57.C W A lp.length lp → Calls Try.prog 13 #[rv Ap lp.length cp (n0 + tk) q0, rv A lp.length c (n0 + tk) q0] W fun e w' => e = .returned (.bool true) ∧ Below W.heap.size W w') := Lib.hid fun W A c hW h1 h2 => hsm6.out W A c (below_step hb47.out hW) h1 h2
    clear hK67 hK47
    go_wp2
    refine start_ (n := 13) (S := fun w' => w'.cell? ⟨w4.heap.size, 0, none⟩ = some (.slice Ap lp.length cp) ∧ w'.cell? ⟨w4.heap.size, 1, none⟩ = some (.int .u64 (n0 + tk)) ∧ w'.cell? ⟨w4.heap.size, 2, none⟩ = some (.int .u64 q0) ∧ w'.cell? ⟨w.heap.size, 0, none⟩ = some (.slice A2 l.length c2) ∧ w'.cell? ⟨w.heap.size, 1, none⟩ = some (.int .u64 n0) ∧ w'.cell? ⟨w.heap.size, 2, none⟩ = some (.int .u64 q0)) (ds := []) bHLawTicks0 (by kernel_rfl) rfl rfl ⟨(hq6.out _ (Below.refl w7.heap.size w7).drew).1, (hq6.out _ (Below.refl w7.heap.size w7).drew).2.1, (hq6.out _ (Below.refl w7.heap.size w7).drew).2.2.1, (hq6.out _ (Below.refl w7.heap.size w7).drew).2.2.2.1, (hq6.out _ (Below.refl w7.heap.size w7).drew).2.2.2.2.1, (hq6.out _ (Below.refl w7.heap.size w7).drew).2.2.2.2.2⟩ (fun hHeld => ?_)
    refine one_ (i := 0) (N := some 49) bHLawTicks1 rfl rfl (by kernel_rfl) (by decide) (fun K hK => ?_)
    refine goes_ Try.func14 (by kernel_rfl) rfl #[] (by rfl) rfl rfl (by simp only [List.map_toArray, List.map_cons, List.map_nil]) ?_
    with_reducible refine (alive_calls _).mono ?_
    rintro e_ w8 ⟨rfl, hb7⟩
    refine ⟨_, rfl, ?_⟩
    have HB7 := Aside0.mk (Below.trans (Below.refl w7.heap.size w7).drew hb7)
    clear hb7
    refine hK.out _ _ ⟨(hq6.out _ HB7.out).1, (hq6.out _ HB7.out).2.1, (hq6.out _ HB7.out).2.2.1, (hq6.out _ HB7.out).2.2.2.1, (hq6.out _ HB7.out).2.2.2.2.1, (hq6.out _ HB7.out).2.2.2.2.2⟩ (fun hHeld => ?_)
    clear hK K
    refine norm_ (a' := ?_) ?_ ?_
    rotate_left
    · show Act.put _ (some 49) _ = _
      simp only [Act.put, List.setIfInBounds_toArray, List.set_cons_zero, List.set_cons_succ, i64_w, i32_w]
      rfl
    refine p_ 1 (some 50) bHLawTicks2 ?_
    refine p_ 2 (some 51) bHLawTicks3 ?_
    refine p_ 3 (some 52) bHLawTicks4 ?_
    refine p_ 4 (some 53) bHLawTicks5 ?_
    refine p_ 5 (some 54) bHLawTicks6 ?_
    refine p_ 8 (some 57) bHLawTicks7 ?_
    refine t_ 6 (some 55) bHLawTicks8 hHeld (hv := by rintro w' ⟨s0, s1, s2, s3, s4, s5⟩; go_simp; with_reducible rfl) (h := ?_)
    refine t_ 7 (some 56) bHLawTicks9 hHeld (hv := by rintro w' ⟨s0, s1, s2, s3, s4, s5⟩; go_simp; with_reducible rfl) (h := ?_)
    refine one_ (i := 9) (N := some 58) bHLawTicks10 rfl rfl (by kernel_rfl) (by decide) (fun K hK => ?_)
    refine goes_ Try.func18 (by kernel_rfl) rfl #[.agg #[.slice A2 l.length c2, .int .u64 n0, .int .u64 q0], .int .u64 tk] (by rfl) rfl rfl (by simp only [List.map_toArray, List.map_cons, List.map_nil]; rfl) ?_
    with_reducible refine (htk6.out _ HB7.out).mono ?_
    rintro e_ w9 ⟨Aq, cq, rfl, hcq, hCq, hb8⟩
    refine ⟨_, rfl, ?_⟩
    have HB8 := Aside0.mk (below_step HB7.out hb8)
    clear hb8
    refine hK.out _ _ ⟨(hq6.out _ HB8.out).1, (hq6.out _ HB8.out).2.1, (hq6.out _ HB8.out).2.2.1, (hq6.out _ HB8.out).2.2.2.1, (hq6.out _ HB8.out).2.2.2.2.1, (hq6.out _ HB8.out).2.2.2.2.2⟩ (fun hHeld => ?_)
    clear hK K
    refine norm_ (a' := ?_) ?_ ?_
    rotate_left
    · show Act.put _ (some 58) _ = _
      simp only [Act.put, List.setIfInBounds_toArray, List.set_cons_zero, List.set_cons_succ, i64_w, i32_w]
      rfl
    refine one_ (i := 10) (N := some 59) bHLawTicks11 rfl rfl (by kernel_rfl) (by decide) (fun K hK => ?_)
    refine goes_ Try.func13 (by kernel_rfl) rfl #[.agg #[.slice Ap lp.length cp, .int .u64 (n0 + tk), .int .u64 q0], .agg #[.slice Aq lp.length cq, .int .u64 (n0 + tk), .int .u64 q0]] (by rfl) rfl rfl (by simp only [List.map_toArray, List.map_cons, List.map_nil]; rfl) ?_
    with_reducible refine (hsm6.out _ Aq cq HB8.out hcq hCq).mono ?_
    rintro e_ w10 ⟨rfl, hb9⟩
    refine ⟨_, rfl, ?_⟩
    have HB9 := Aside0.mk (below_step HB8.out hb9)
    clear hb9
    refine hK.out _ _ ⟨(hq6.out _ HB9.out).1, (hq6.out _ HB9.out).2.1, (hq6.out _ HB9.out).2.2.1, (hq6.out _ HB9.out).2.2.2.1, (hq6.out _ HB9.out).2.2.2.2.1, (hq6.out _ HB9.out).2.2.2.2.2⟩ (fun hHeld => ?_)
    clear hK K
    refine norm_ (a' := ?_) ?_ ?_
    rotate_left
    · show Act.put _ (some 59) _ = _
      simp only [Act.put, List.setIfInBounds_toArray, List.set_cons_zero, List.set_cons_succ, i64_w, i32_w]
      rfl
    refine p_ 11 (some 60) bHLawTicks12 ?_
    refine p_ 12 (some 4) bHLawTicks13 ?_
    refine done_ (by kernel_rfl) ?_
    go_wp2
    go_ret
    exact ⟨rfl, below_step hB7.out HB9.out⟩
theorem ticks_walk (x0 : S25) (A0 : Option Addr) (c0 : Nat) (tk : Int) (w : World) (hr0 : Kd.C k57 w A0 x0.f0.length x0.f0) (hc0 : x0.f0.length ≤ c0) (g0 : good25 x0) (w1 : (Lit.int .u64 tk).wf = true) :
    Calls Try.prog 4 #[rv A0 x0.f0.length c0 x0.f1 x0.f2, .int .u64 tk] w fun e w' => e = .returned (.bool true) ∧ Below w.heap.size w w' := by
  have hb1 := bounds_u64 g0.2.1
  have hb2 := bounds_u64 w1
  exact ticks_core A0 c0 x0.f0 x0.f1 x0.f2 tk w hr0 hc0 g0.1 ⟨hb1.1, by omega⟩ ⟨hb2.1, by omega⟩
end Go.Proofs.Ytbmfcikjhnnnbaa.Q
