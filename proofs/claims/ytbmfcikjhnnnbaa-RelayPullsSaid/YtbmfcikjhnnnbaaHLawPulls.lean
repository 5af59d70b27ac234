/- RelayPulls: any user's first mails, and any relay without any mail, are as the document says, or refused.
   Conditions: the relay is read as such. -/
import Derived.Test.YtbmfcikjhnnnbaaHStep
import Derived.Test.YtbmfcikjhnnnbaaHPure3
import Derived.Test.YtbmfcikjhnnnbaaHWith
import Derived.Test.YtbmfcikjhnnnbaaQx122
namespace Go.Proofs.Ytbmfcikjhnnnbaa.Q
open Go.RowKit Go.Proofs.YtbmfcikjhnnnbaaW.PrintWords Go.Proofs.YtbmfcikjhnnnbaaW.PrintLast Go.Proofs.YtbmfcikjhnnnbaaW.PrintMore
set_option linter.unusedVariables false
set_option linter.unusedSimpArgs false

attribute [local go_sem] max2_int min2_int max_two min_two max_three min_three max_four min_four
set_option maxHeartbeats 16000000 in
set_option maxRecDepth 100000 in
theorem pulls_core (A0 : Option Addr) (c0 : Nat) (l0 : List S57) (n0 q0 u id : Int) (w : World) (hr0 : Kd.C k57 w A0 l0.length l0) (hc0 : l0.length ≤ c0) (g0 : good22 l0) (hn0 : 0 ≤ n0 ∧ n0 ≤ 18446744073709551615) :
    Calls Try.prog 5 #[rv A0 l0.length c0 n0 q0, .int .u64 u, .int .u64 id] w fun e w' => e = .returned (.bool true) ∧ Below w.heap.size w w' := by
  have hsm0 := small_few g0
  obtain ⟨l, hl⟩ : ∃ l, fewL l0 = l := ⟨_, rfl⟩
  rw [hl] at hsm0
  have hl10 := hsm0.1
  have hwf := Lib.hid (small_wf hsm0)
  replace hsm0 := Lib.hid hsm0
  clear g0
  obtain ⟨w1, hw1⟩ : ∃ w1, w.alloc (.cells #[.slice A0 l0.length c0, .int .u64 n0, .int .u64 q0] 25 (0, 0)) = w1 := ⟨_, rfl⟩
  have hb1 : Below w.heap.size w w1 := by rw [← hw1]; exact below_alloc (Below.refl _ _) _
  have hs1 : w1.heap.size = w.heap.size + 1 := by rw [← hw1]; simp
  have hK1 : w1.heap[w.heap.size]? = some (.cells #[.slice A0 l0.length c0, .int .u64 n0, .int .u64 q0] 25 (0, 0)) := by rw [← hw1]; exact heap_alloc_new _ _
  have hfc := Aside0.mk (few_at A0 c0 l0 l n0 q0 w w1 hr0 hc0 hb1 hl)
  obtain ⟨z0, z1, z2⟩ := box3 hK1
  replace hs1 := Lib.hid hs1
  replace hl := Lib.hid hl
  go_enter Try.func5, Try.ntmps5
  go_wp2_with fail
  refine hfc.out.mono ?_; rintro e_ w2 ⟨A2, c2, rfl, hc2, hN2, hb2⟩
  have hK2 := (hb2.block _ (blk_lt hK1)).trans hK1
  have hB2 := Aside0.mk (below_step hb1 hb2)
  clear hfc z0 z1 z2 hK1 hb1 hb2
  obtain ⟨z0, z1, z2⟩ := box3 hK2
  go_wp2_with ((with_reducible refine gate_store (t := 25) (p := 3) rfl ?_); go_loud (refine wpList_storeBox rfl rfl 25 (.tmp 3) (.tmp 15) rfl (rv A2 l.length c2 n0 q0) [.slice A2 l.length c2, .int .u64 n0, .int .u64 q0] rfl rfl rfl (by kernel_rfl) (by simp [Value.oneCell']) hK2 rfl ?_); intro w3 hK3 hg3 hs3; clear z0 z1 z2; obtain ⟨z0, z1, z2⟩ := box3 hK3; have hN3 := Kd.N_grown hN2 hg3 (fun k hk e => by injection e with e; have := hs1.out; rcases hk with h | h <;> omega); have hC3 := (Kd.N_reads' hN3).2.2; have hT := Aside0.mk (pull_calls A2 c2 l n0 q0 u w3 hC3 hc2 (by omega) hwf.out hn0))
  have hB3 := Aside0.mk (hB2.out.grown hg3 hB2.out.size (fun k hk => by cases hk; exact Nat.le_refl _))
  refine hT.out.mono ?_; rintro e_ w4 ⟨hE0, hb4⟩
  have hE := pull_mails hE0
  have hK4 := (hb4.block _ (blk_lt hK3)).trans hK3
  have hC4 := Aside0.mk (Kd.C_below hC3 hb4)
  have hB4 := Aside0.mk (below_step hB3.out hb4)
  have hA := Aside0.mk (ack_calls A2 c2 l n0 q0 u id w4 hC4.out hc2 (by omega) hwf.out hn0)
  clear hE0 hT z0 z1 z2 hg3 hs3 hK2 hK3 hN2 hN3 hC3 hb4
  obtain ⟨z0, z1, z2⟩ := box3 hK4
  have hrr : Hid (∀ W, Below w4.heap.size w4 W → Calls Try.prog 11 #[rv A2 l.length c2 n0 q0] W fun e w' => e = .returned (.bool (relB l n0 q0)) ∧ Below W.heap.size W w') := Lib.hid fun W hW => demurralref16_Right.calls 3000 A2 c2 l n0 q0 _ W (Kd.C_below hC4.out hW) hc2 (right_f l hsm0.out n0 q0 hn0.2 3000 (by decide))
  have hsz : Hid (∀ W, Calls Try.prog 13 #[zerR, zerR] W fun e w' => e = .returned (.bool true) ∧ Below W.heap.size W w') := Lib.hid fun W => by
    have h := demurralref16_Same.calls 3000 none 0 [] 0 0 none 0 [] 0 0 _ W (Kd.C_nil _ _) (Nat.le_refl _) (Kd.C_nil _ _) (Nat.le_refl _) (same_f [] [] 0 0 0 0 (by simp) (fun x hx => by cases hx) 3000 (by decide))
    rw [likeB_refl] at h
    exact h
  have hm18 := mails_small hsm0.out u
  obtain ⟨ml, hml⟩ : ∃ m, mailsL l u = m := ⟨_, rfl⟩
  rw [hml] at hE hm18
  have hmc : Hid (∀ W, Below w4.heap.size w4 W → Calls Try.prog 21 #[rv A2 l.length c2 n0 q0, .int .u64 u] W fun e w' => ∃ A c, e = .returned (.slice A ml.length c) ∧ ml.length ≤ c ∧ k54.C w' A ml.length ml ∧ Below W.heap.size W w') := Lib.hid fun W hW => (demurralref16_Mails.calls 500 _ A2 c2 l n0 q0 u _ W (V_of57 (Kd.C_below hC4.out hW) hc2) (mails_f l (by omega) n0 q0 u 500 (by omega))).mono (by
    rintro e w' ⟨v, rfl, hV, hb⟩
    rw [hml] at hV
    obtain ⟨A, c, rfl⟩ := Kd.V_slice hV
    obtain ⟨_, h1, h2⟩ := Kd.V_reads' hV
    exact ⟨A, c, rfl, h1, h2, hb⟩)
  obtain ⟨left, hleft⟩ : ∃ m, (ml.filter fun m => !(m.f0 == id)) = m := ⟨_, rfl⟩
  have hll : left.length ≤ ml.length := by rw [← hleft]; exact List.length_filter_le _ _
  have hwt : Hid (∀ W A c, ml.length ≤ c → k54.C W A ml.length ml → Calls Try.prog 23 #[.slice A ml.length c, .int .u64 id] W fun e w' => ∃ A' c', e = .returned (.slice A' left.length c') ∧ left.length ≤ c' ∧ k54.C w' A' left.length left ∧ Below W.heap.size W w') := Lib.hid fun W A c h1 h2 => (demurralref16_Without.calls 500 A c ml id _ W h2 h1 (refwithout_f ml (by omega) id 500 (by omega))).mono (by
    rintro e w' ⟨v, rfl, hR, hb⟩
    rw [hleft] at hR
    obtain ⟨A', c', rfl, h1, h2⟩ := Kd.R_reads hR
    exact ⟨A', c', rfl, h1, h2, hb⟩)
  have hany : relB l n0 q0 = true → ((anyL (ackB u id) l = true) ↔ left.length ≠ ml.length) := fun h => by rw [any_ack u id (ord_of h), hml, any_len, hleft]
  have hwl : relB l n0 q0 = true → withoutL (ackB u id) l = withL l u left := fun h => by rw [ack_with u id (ord_of h), hml, hleft]
  have hlas := withoutL_small hsm0.out (ackB u id)
  have hwi0 : Hid (∀ W A c, Below w4.heap.size w4 W → left.length ≤ c → k54.C W A left.length left → Calls Try.prog 24 #[rv A2 l.length c2 n0 q0, .int .u64 u, .slice A left.length c] W fun e w' => ∃ A' c', e = .returned (rv A' (withL l u left).length c' n0 q0) ∧ (withL l u left).length ≤ c' ∧ k57.C w' A' (withL l u left).length (withL l u left) ∧ Below W.heap.size W w') := Lib.hid fun W A c hW h1 h2 => (demurralref16_With.calls 500 _ A2 c2 l n0 q0 u _ A c left _ _ _ W (V_of57 (Kd.C_below hC4.out hW) hc2) (V_of54 h2 h1) (with_f l (by omega) n0 q0 u left 500 (by omega))).mono (by
    rintro e w' ⟨v, rfl, hN, hb⟩
    obtain ⟨A', c', rfl, h1, h2⟩ := Kd.N_reads hN
    exact ⟨A', c', rfl, h1, h2, hb⟩)
  replace hany := Lib.hid hany
  replace hwl := Lib.hid hwl
  replace hlas := Lib.hid hlas
  replace hleft := Lib.hid hleft
  replace hml := Lib.hid hml
  rcases hE with ⟨hR, rfl⟩ | ⟨hR, hnil, rfl⟩ | ⟨hR, hpos, Ap, cp, rfl, hcp, hCp⟩
  · skip
    go_wp2_with fail
    refine hA.out.mono ?_; rintro e_ w5 ⟨hE5, hb5⟩
    replace hb5 := Aside0.mk hb5
    clear hA z0 z1 z2
    rcases hE5 with ⟨_, rfl⟩ | ⟨hR2, _⟩ | ⟨hR2, _⟩
    · skip
      obtain ⟨w6, hw6⟩ : ∃ w6, w5.alloc (.cells #[.slice none 0 0, .int .u64 0, .int .u64 0] 25 (0, 0)) = w6 := ⟨_, rfl⟩
      have hb6 : Below w5.heap.size w5 w6 := by rw [← hw6]; exact below_alloc (Below.refl _ _) _
      have hK6 : w6.heap[w5.heap.size]? = some (.cells #[.slice none 0 0, .int .u64 0, .int .u64 0] 25 (0, 0)) := by rw [← hw6]; exact heap_alloc_new _ _
      go_wp2_with ((with_reducible refine gate_store (t := 25) (p := 9) rfl ?_); go_loud (refine wpList_storeBox rfl rfl 25 (.tmp 9) (.tmp 27) rfl (zerR) [.slice none 0 0, .int .u64 0, .int .u64 0] rfl rfl rfl (by kernel_rfl) (by simp [Value.oneCell']) hK6 rfl ?_); intro w7 hK7 hg7 hs7; have hb7 := Aside0.mk (below_step hb5.out (hb6.grown hg7 hb6.size (fun k hk => by cases hk; exact Nat.le_refl _))); have hb57 := hb6.grown hg7 hb6.size (fun k hk => by cases hk; exact Nat.le_refl _); have hK47 := (hb7.out.block _ (blk_lt hK4)).trans hK4; obtain ⟨z0, z1, z2⟩ := box3 hK47; have hc := Aside0.mk (hrr.out w7 hb7.out); rw [hR] at hc)
      refine hc.out.mono ?_; rintro e_ w8 ⟨rfl, hb8⟩
      have hb48 := Aside0.mk (below_step hb7.out hb8)
      have hK78 := (hb8.block _ (blk_lt hK7)).trans hK7
      have hK48 := (hb8.block _ (blk_lt hK47)).trans hK47
      have hb58 := Aside0.mk (below_step hb57 hb8)
      clear hc z0 z1 z2 hg7 hs7 hb8 hK7 hK47 hb6 hb7 hw6 hb57
      go_wp2_with fail
      refine (alive_calls _).mono ?_; rintro e_ w9 ⟨rfl, hb9⟩
      have hb49 := Aside0.mk (below_step hb48.out hb9)
      have hb59 := Aside0.mk (below_step hb58.out hb9)
      have hK79 := (hb9.block _ (blk_lt hK78)).trans hK78
      have hK49 := (hb9.block _ (blk_lt hK48)).trans hK48
      clear hb9
      obtain ⟨y0, y1, y2⟩ := box3 hK79
      go_wp2_with fail
      refine (hsz.out _).mono ?_; rintro e_ w99 ⟨rfl, hb99⟩
      go_wp2
      go_ret
      exact ⟨rfl, below_step hB4.out (below_step hb49.out hb99)⟩
    · rw [hR] at hR2; cases hR2
    · rw [hR] at hR2; cases hR2
  · subst hnil
    go_wp2_with fail
    refine hA.out.mono ?_; rintro e_ w5 ⟨hE5, hb5⟩
    replace hb5 := Aside0.mk hb5
    clear hA z0 z1 z2
    have hl0 : left = [] := List.eq_nil_of_length_eq_zero (Nat.le_zero.1 hll)
    have hna : anyL (ackB u id) l = false := by
      cases h : anyL (ackB u id) l with
      | false => rfl
      | true => exact absurd (by rw [hl0]) ((hany.out hR).1 h)
    rcases hE5 with ⟨hR2, _⟩ | ⟨_, _, rfl⟩ | ⟨_, h2, _⟩
    · rw [hR] at hR2; cases hR2
    · subst hl0
      obtain ⟨w6, hw6⟩ : ∃ w6, w5.alloc (.cells #[.slice none 0 0, .int .u64 0, .int .u64 0] 25 (0, 0)) = w6 := ⟨_, rfl⟩
      have hb6 : Below w5.heap.size w5 w6 := by rw [← hw6]; exact below_alloc (Below.refl _ _) _
      have hK6 : w6.heap[w5.heap.size]? = some (.cells #[.slice none 0 0, .int .u64 0, .int .u64 0] 25 (0, 0)) := by rw [← hw6]; exact heap_alloc_new _ _
      go_wp2_with ((with_reducible refine gate_store (t := 25) (p := 9) rfl ?_); go_loud (refine wpList_storeBox rfl rfl 25 (.tmp 9) (.tmp 27) rfl (zerR) [.slice none 0 0, .int .u64 0, .int .u64 0] rfl rfl rfl (by kernel_rfl) (by simp [Value.oneCell']) hK6 rfl ?_); intro w7 hK7 hg7 hs7; have hb7 := Aside0.mk (below_step hb5.out (hb6.grown hg7 hb6.size (fun k hk => by cases hk; exact Nat.le_refl _))); have hb57 := hb6.grown hg7 hb6.size (fun k hk => by cases hk; exact Nat.le_refl _); have hK47 := (hb7.out.block _ (blk_lt hK4)).trans hK4; obtain ⟨z0, z1, z2⟩ := box3 hK47; have hc := Aside0.mk (hrr.out w7 hb7.out); rw [hR] at hc)
      refine hc.out.mono ?_; rintro e_ w8 ⟨rfl, hb8⟩
      have hb48 := Aside0.mk (below_step hb7.out hb8)
      have hK78 := (hb8.block _ (blk_lt hK7)).trans hK7
      have hK48 := (hb8.block _ (blk_lt hK47)).trans hK47
      have hb58 := Aside0.mk (below_step hb57 hb8)
      clear hc z0 z1 z2 hg7 hs7 hb8 hK7 hK47 hb6 hb7 hw6 hb57
      obtain ⟨z0, z1, z2⟩ := box3 hK48
      go_wp2_with fail
      refine (hmc.out _ hb48.out).mono ?_; rintro e_ w9 ⟨Am, cm, rfl, hcm, hCm, hb9⟩
      have hb49 := Aside0.mk (below_step hb48.out hb9)
      have hb59 := Aside0.mk (below_step hb58.out hb9)
      have hK79 := (hb9.block _ (blk_lt hK78)).trans hK78
      have hK49 := (hb9.block _ (blk_lt hK48)).trans hK48
      replace hCm := Aside0.mk hCm
      clear z0 z1 z2 hb9
      have hlen0 : (([] : List S54).length : Int) = 0 := rfl
      go_wp2_with fail
      refine (alive_calls _).mono ?_; rintro e_ w10 ⟨rfl, hb10⟩
      have hb410 := Aside0.mk (below_step hb49.out hb10)
      have hb510 := Aside0.mk (below_step hb59.out hb10)
      have hK710 := (hb10.block _ (blk_lt hK79)).trans hK79
      have hK410 := (hb10.block _ (blk_lt hK49)).trans hK49
      replace hCm := Aside0.mk (Kd.C_below hCm.out hb10)
      clear hb10
      go_wp2_with fail
      refine (hwt.out _ Am cm hcm hCm.out).mono ?_; rintro e_ w11 ⟨Al, cl, rfl, hcl, hCl, hb11⟩
      have hb411 := Aside0.mk (below_step hb410.out hb11)
      have hb511 := Aside0.mk (below_step hb510.out hb11)
      have hK711 := (hb11.block _ (blk_lt hK710)).trans hK710
      have hK411 := (hb11.block _ (blk_lt hK410)).trans hK410
      replace hCl := Aside0.mk hCl
      clear hb11
      obtain ⟨y0, y1, y2⟩ := box3 hK711
      go_wp2_with fail
      refine (hsz.out _).mono ?_; rintro e_ w99 ⟨rfl, hb99⟩
      go_wp2
      go_ret
      exact ⟨rfl, below_step hB4.out (below_step hb411.out hb99)⟩
    · rw [hna] at h2; cases h2
  · obtain ⟨n, hn⟩ : ∃ n, (ml.take 5).length = n := ⟨_, rfl⟩
    rw [hn] at hcp hCp ⊢
    go_wp2_with fail
    refine hA.out.mono ?_; rintro e_ w5 ⟨hE5, hb5⟩
    replace hb5 := Aside0.mk hb5
    clear hA z0 z1 z2
    have hl0 : ¬ (ml.length : Int) = 0 := by omega
    have hl1 : ((ml.length : Int) == 0) = false := beq_eq_false_iff_ne.2 hl0
    have hn5 : n = min ml.length 5 := by rw [← hn, List.length_take, Nat.min_comm]
    have hmin : (if (5 : Int) < (ml.length : Int) then (5 : Int) else (ml.length : Int)) = (n : Int) := by split <;> omega
    have hnl : n ≤ ml.length := by omega
    have hn55 : n ≤ 5 := by omega
    replace hn5 := Lib.hid hn5
    obtain ⟨i0, hi0, _, hsz_, _⟩ := info_parts info54
    replace hCp := Aside0.mk (Kd.C_below hCp hb5.out)
    have hms : Hid (∀ W A c, Below w5.heap.size w5 W → n ≤ c → k54.C W A n (ml.take 5) → Calls Try.prog 22 #[.slice Ap n cp, .slice A n c] W fun e w' => e = .returned (.bool true) ∧ Below W.heap.size W w') := Lib.hid fun W A c hW h1 h2 => by
      have h := demurralref16_MailsSame.calls 500 Ap cp (ml.take 5) A c (ml.take 5) _ W (by rw [hn]; exact Kd.C_below hCp.out hW) (by rw [hn]; exact hcp) (by rw [hn]; exact h2) (by rw [hn]; exact h1) (mailsame_f _ _ (by rw [hn]; omega) 500 (by rw [hn]; omega))
      rw [mailsB_refl, hn] at h
      exact h.mono (fun e w' ⟨h1, h2⟩ => ⟨h1, h2.below⟩)
    rcases hE5 with ⟨hR2, _⟩ | ⟨_, hm, rfl⟩ | ⟨_, hm, la, Aa, ca, hla, rfl, hca, hCa⟩
    · rw [hR] at hR2; cases hR2
    · have hle : left.length = ml.length := by
        rcases Nat.lt_or_ge left.length ml.length with h | h
        · have := (hany.out hR).2 (by omega); rw [hm] at this; cases this
        · omega
      obtain ⟨w6, hw6⟩ : ∃ w6, w5.alloc (.cells #[.slice none 0 0, .int .u64 0, .int .u64 0] 25 (0, 0)) = w6 := ⟨_, rfl⟩
      have hb6 : Below w5.heap.size w5 w6 := by rw [← hw6]; exact below_alloc (Below.refl _ _) _
      have hK6 : w6.heap[w5.heap.size]? = some (.cells #[.slice none 0 0, .int .u64 0, .int .u64 0] 25 (0, 0)) := by rw [← hw6]; exact heap_alloc_new _ _
      go_wp2_with ((with_reducible refine gate_store (t := 25) (p := 9) rfl ?_); go_loud (refine wpList_storeBox rfl rfl 25 (.tmp 9) (.tmp 27) rfl (zerR) [.slice none 0 0, .int .u64 0, .int .u64 0] rfl rfl rfl (by kernel_rfl) (by simp [Value.oneCell']) hK6 rfl ?_); intro w7 hK7 hg7 hs7; have hb7 := Aside0.mk (below_step hb5.out (hb6.grown hg7 hb6.size (fun k hk => by cases hk; exact Nat.le_refl _))); have hb57 := hb6.grown hg7 hb6.size (fun k hk => by cases hk; exact Nat.le_refl _); have hK47 := (hb7.out.block _ (blk_lt hK4)).trans hK4; obtain ⟨z0, z1, z2⟩ := box3 hK47; have hc := Aside0.mk (hrr.out w7 hb7.out); rw [hR] at hc)
      refine hc.out.mono ?_; rintro e_ w8 ⟨rfl, hb8⟩
      have hb48 := Aside0.mk (below_step hb7.out hb8)
      have hK78 := (hb8.block _ (blk_lt hK7)).trans hK7
      have hK48 := (hb8.block _ (blk_lt hK47)).trans hK47
      have hb58 := Aside0.mk (below_step hb57 hb8)
      clear hc z0 z1 z2 hg7 hs7 hb8 hK7 hK47 hb6 hb7 hw6 hb57
      obtain ⟨z0, z1, z2⟩ := box3 hK48
      go_wp2_with fail
      refine (hmc.out _ hb48.out).mono ?_; rintro e_ w9 ⟨Am, cm, rfl, hcm, hCm, hb9⟩
      have hb49 := Aside0.mk (below_step hb48.out hb9)
      have hb59 := Aside0.mk (below_step hb58.out hb9)
      have hK79 := (hb9.block _ (blk_lt hK78)).trans hK78
      have hK49 := (hb9.block _ (blk_lt hK48)).trans hK48
      replace hCm := Aside0.mk hCm
      clear z0 z1 z2 hb9
      have hcut := cut_to (P := Try.prog) 39 54 .i64 Try.underlying39 hi0 Am ml.length cm (n : Int) (by omega) (by omega) hcm
      rw [Int.toNat_natCast] at hcut
      have hCt : k54.C w9 Am n (ml.take 5) := by
        rw [← hn]
        rcases Nat.le_total ml.length 5 with h | h
        · rw [List.take_of_length_le h]; exact hCm.out
        · exact Kd.C_take hCm.out (by omega)
      have hmc9 := Aside0.mk (hms.out w9 Am cm hb59.out (by omega) hCt)
      go_wp2_with fail
      refine hmc9.out.mono ?_; rintro e_ w10 ⟨rfl, hb10⟩
      have hb410 := Aside0.mk (below_step hb49.out hb10)
      have hb510 := Aside0.mk (below_step hb59.out hb10)
      have hK710 := (hb10.block _ (blk_lt hK79)).trans hK79
      have hK410 := (hb10.block _ (blk_lt hK49)).trans hK49
      replace hCm := Aside0.mk (Kd.C_below hCm.out hb10)
      clear hb10 hmc9 hCt hcut
      go_wp2_with fail
      refine (alive_calls _).mono ?_; rintro e_ w11 ⟨rfl, hb11⟩
      have hb411 := Aside0.mk (below_step hb410.out hb11)
      have hb511 := Aside0.mk (below_step hb510.out hb11)
      have hK711 := (hb11.block _ (blk_lt hK710)).trans hK710
      have hK411 := (hb11.block _ (blk_lt hK410)).trans hK410
      replace hCm := Aside0.mk (Kd.C_below hCm.out hb11)
      clear hb11
      go_wp2_with fail
      refine (hwt.out _ Am cm hcm hCm.out).mono ?_; rintro e_ w12 ⟨Al, cl, rfl, hcl, hCl, hb12⟩
      have hb412 := Aside0.mk (below_step hb411.out hb12)
      have hb512 := Aside0.mk (below_step hb511.out hb12)
      have hK712 := (hb12.block _ (blk_lt hK711)).trans hK711
      have hK412 := (hb12.block _ (blk_lt hK411)).trans hK411
      replace hCl := Aside0.mk hCl
      clear hb12
      have hle2 : (left.length : Int) = (ml.length : Int) := by omega
      have hle3 : ((left.length : Int) == (ml.length : Int)) = true := beq_iff_eq.2 hle2
      obtain ⟨y0, y1, y2⟩ := box3 hK712
      go_wp2_with fail
      refine (hsz.out _).mono ?_; rintro e_ w99 ⟨rfl, hb99⟩
      go_wp2
      go_ret
      exact ⟨rfl, below_step hB4.out (below_step hb412.out hb99)⟩
    · have hne : ¬ (left.length : Int) = (ml.length : Int) := fun h => (hany.out hR).1 hm (by omega)
      have hne2 : ((left.length : Int) == (ml.length : Int)) = false := beq_eq_false_iff_ne.2 hne
      obtain ⟨w6, hw6⟩ : ∃ w6, w5.alloc (.cells #[.slice none 0 0, .int .u64 0, .int .u64 0] 25 (0, 0)) = w6 := ⟨_, rfl⟩
      have hb6 : Below w5.heap.size w5 w6 := by rw [← hw6]; exact below_alloc (Below.refl _ _) _
      have hK6 : w6.heap[w5.heap.size]? = some (.cells #[.slice none 0 0, .int .u64 0, .int .u64 0] 25 (0, 0)) := by rw [← hw6]; exact heap_alloc_new _ _
      go_wp2_with ((with_reducible refine gate_store (t := 25) (p := 9) rfl ?_); go_loud (refine wpList_storeBox rfl rfl 25 (.tmp 9) (.tmp 27) rfl (rv Aa la.length ca n0 q0) [.slice Aa la.length ca, .int .u64 n0, .int .u64 q0] rfl rfl rfl (by kernel_rfl) (by simp [Value.oneCell']) hK6 rfl ?_); intro w7 hK7 hg7 hs7; have hb7 := Aside0.mk (below_step hb5.out (hb6.grown hg7 hb6.size (fun k hk => by cases hk; exact Nat.le_refl _))); have hb57 := hb6.grown hg7 hb6.size (fun k hk => by cases hk; exact Nat.le_refl _); have hK47 := (hb7.out.block _ (blk_lt hK4)).trans hK4; obtain ⟨z0, z1, z2⟩ := box3 hK47; have hc := Aside0.mk (hrr.out w7 hb7.out); rw [hR] at hc)
      refine hc.out.mono ?_; rintro e_ w8 ⟨rfl, hb8⟩
      have hb48 := Aside0.mk (below_step hb7.out hb8)
      have hK78 := (hb8.block _ (blk_lt hK7)).trans hK7
      have hK48 := (hb8.block _ (blk_lt hK47)).trans hK47
      have hb58 := Aside0.mk (below_step hb57 hb8)
      clear hc z0 z1 z2 hg7 hs7 hb8 hK7 hK47 hb6 hb7 hw6 hb57
      obtain ⟨z0, z1, z2⟩ := box3 hK48
      go_wp2_with fail
      refine (hmc.out _ hb48.out).mono ?_; rintro e_ w9 ⟨Am, cm, rfl, hcm, hCm, hb9⟩
      have hb49 := Aside0.mk (below_step hb48.out hb9)
      have hb59 := Aside0.mk (below_step hb58.out hb9)
      have hK79 := (hb9.block _ (blk_lt hK78)).trans hK78
      have hK49 := (hb9.block _ (blk_lt hK48)).trans hK48
      replace hCm := Aside0.mk hCm
      clear z0 z1 z2 hb9
      have hcut := cut_to (P := Try.prog) 39 54 .i64 Try.underlying39 hi0 Am ml.length cm (n : Int) (by omega) (by omega) hcm
      rw [Int.toNat_natCast] at hcut
      have hCt : k54.C w9 Am n (ml.take 5) := by
        rw [← hn]
        rcases Nat.le_total ml.length 5 with h | h
        · rw [List.take_of_length_le h]; exact hCm.out
        · exact Kd.C_take hCm.out (by omega)
      have hmc9 := Aside0.mk (hms.out w9 Am cm hb59.out (by omega) hCt)
      go_wp2_with fail
      refine hmc9.out.mono ?_; rintro e_ w10 ⟨rfl, hb10⟩
      have hb410 := Aside0.mk (below_step hb49.out hb10)
      have hb510 := Aside0.mk (below_step hb59.out hb10)
      have hK710 := (hb10.block _ (blk_lt hK79)).trans hK79
      have hK410 := (hb10.block _ (blk_lt hK49)).trans hK49
      replace hCm := Aside0.mk (Kd.C_below hCm.out hb10)
      clear hb10 hmc9 hCt hcut
      go_wp2_with fail
      refine (alive_calls _).mono ?_; rintro e_ w11 ⟨rfl, hb11⟩
      have hb411 := Aside0.mk (below_step hb410.out hb11)
      have hb511 := Aside0.mk (below_step hb510.out hb11)
      have hK711 := (hb11.block _ (blk_lt hK710)).trans hK710
      have hK411 := (hb11.block _ (blk_lt hK410)).trans hK410
      replace hCm := Aside0.mk (Kd.C_below hCm.out hb11)
      clear hb11
      go_wp2_with fail
      refine (hwt.out _ Am cm hcm hCm.out).mono ?_; rintro e_ w12 ⟨Al, cl, rfl, hcl, hCl, hb12⟩
      have hb412 := Aside0.mk (below_step hb411.out hb12)
      have hb512 := Aside0.mk (below_step hb511.out hb12)
      have hK712 := (hb12.block _ (blk_lt hK711)).trans hK711
      have hK412 := (hb12.block _ (blk_lt hK411)).trans hK411
      replace hCl := Aside0.mk hCl
      clear hb12
      have hla2 : withL l u left = la := (hwl.out hR).symm.trans hla
      have hlas2 := hlas.out
      rw [hla] at hlas2
      have hwi1 := hwi0.out
      rw [hla2] at hwi1
      go_wp2
      have hq13 : Hid (∀ W, Below w12.heap.size w12 W → W.cell? ⟨w5.heap.size, 0, none⟩ = some (.slice Aa la.length ca) ∧ W.cell? ⟨w5.heap.size, 1, none⟩ = some (.int .u64 n0) ∧ W.cell? ⟨w5.heap.size, 2, none⟩ = some (.int .u64 q0) ∧ W.cell? ⟨w.heap.size, 0, none⟩ = some (.slice A2 l.length c2) ∧ W.cell? ⟨w.heap.size, 1, none⟩ = some (.int .u64 n0) ∧ W.cell? ⟨w.heap.size, 2, none⟩ = some (.int .u64 q0)) := Lib.hid fun W hW => by
        obtain ⟨a, b, c⟩ := box3 ((hW.block _ (blk_lt hK712)).trans hK712)
        obtain ⟨d, e, f⟩ := box3 ((hW.block _ (blk_lt hK412)).trans hK412)
        exact ⟨a, b, c, d, e, f⟩
      have hwi : Hid (∀ W, Below w12.heap.size w12 W → Calls Try.prog 24 #[rv A2 l.length c2 n0 q0, .int .u64 u, .slice Al left.length cl] W fun e w' => ∃ A' c', e = .returned (rv A' la.length c' n0 q0) ∧ la.length ≤ c' ∧ k57.C w' A' la.length la ∧ Below W.heap.size W w') := Lib.hid fun W hW => hwi1 W Al cl (below_step hb412.out hW) hcl (Kd.C_below hCl.out hW)
      have hsm : Hid (∀ W A c, Below w12.heap.size w12 W → la.length ≤ c → k57.C W A la.length la → Calls Try.prog 13 #[rv Aa la.length ca n0 q0, rv A la.length c n0 q0] W fun e w' => e = .returned (.bool true) ∧ Below W.heap.size W w') := Lib.hid fun W A c hW h1 h2 => by
        have h := demurralref16_Same.calls 3000 Aa ca la n0 q0 A c la n0 q0 _ W (Kd.C_below hCa (below_step hb512.out hW)) hca h2 h1 (same_f la la n0 q0 n0 q0 hlas2.1 hlas2.2 3000 (by decide))
        rw [likeB_refl] at h
        exact h
      clear hwi1 hwi0 hlas2 hla2 hmc hwt hrr hsz hms hCa hCm hCl
      refine start_ (n := 11) (S := fun w' => w'.cell? ⟨w5.heap.size, 0, none⟩ = some (.slice Aa la.length ca) ∧ w'.cell? ⟨w5.heap.size, 1, none⟩ = some (.int .u64 n0) ∧ w'.cell? ⟨w5.heap.size, 2, none⟩ = some (.int .u64 q0) ∧ w'.cell? ⟨w.heap.size, 0, none⟩ = some (.slice A2 l.length c2) ∧ w'.cell? ⟨w.heap.size, 1, none⟩ = some (.int .u64 n0) ∧ w'.cell? ⟨w.heap.size, 2, none⟩ = some (.int .u64 q0)) (ds := []) #[false, false, false, false, false, false, false, false, false, false, false] (by kernel_rfl) rfl rfl ⟨(hq13.out _ (Below.refl w12.heap.size w12).drew).1, (hq13.out _ (Below.refl w12.heap.size w12).drew).2.1, (hq13.out _ (Below.refl w12.heap.size w12).drew).2.2.1, (hq13.out _ (Below.refl w12.heap.size w12).drew).2.2.2.1, (hq13.out _ (Below.refl w12.heap.size w12).drew).2.2.2.2.1, (hq13.out _ (Below.refl w12.heap.size w12).drew).2.2.2.2.2⟩ (fun hHeld => ?_)
      refine p_ 0 (some 104) #[true, false, false, false, false, false, false, false, false, false, false] ?_
      refine p_ 1 (some 105) #[true, true, false, false, false, false, false, false, false, false, false] ?_
      refine p_ 2 (some 106) #[true, true, true, false, false, false, false, false, false, false, false] ?_
      refine p_ 5 (some 109) #[true, true, true, false, false, true, false, false, false, false, false] ?_
      refine p_ 6 (some 110) #[true, true, true, false, false, true, true, false, false, false, false] ?_
      refine t_ 3 (some 107) #[true, true, true, true, false, true, true, false, false, false, false] hHeld (hv := by rintro w' ⟨s0, s1, s2, s3, s4, s5⟩; go_simp; with_reducible rfl) (h := ?_)
      refine t_ 4 (some 108) #[true, true, true, true, true, true, true, false, false, false, false] hHeld (hv := by rintro w' ⟨s0, s1, s2, s3, s4, s5⟩; go_simp; with_reducible rfl) (h := ?_)
      refine one_ (i := 7) (N := some 111) #[true, true, true, true, true, true, true, true, false, false, false] rfl rfl (by kernel_rfl) (by decide) (fun K hK => ?_)
      refine goes_ Try.func24 (by kernel_rfl) rfl #[.agg #[.slice A2 l.length c2, .int .u64 n0, .int .u64 q0], .int .u64 u, .slice Al left.length cl] (by rfl) rfl rfl (by simp only [List.map_toArray, List.map_cons, List.map_nil]; rfl) ?_
      with_reducible refine (hwi.out _ (Below.refl w12.heap.size w12).drew).mono ?_
      rintro e_ w14 ⟨Aq, cq, rfl, hcq, hCq, hb14⟩
      refine ⟨_, rfl, ?_⟩
      have HB14 := Aside0.mk (Below.trans (Below.refl w12.heap.size w12).drew hb14)
      clear hb14
      refine hK.out _ _ ⟨(hq13.out _ HB14.out).1, (hq13.out _ HB14.out).2.1, (hq13.out _ HB14.out).2.2.1, (hq13.out _ HB14.out).2.2.2.1, (hq13.out _ HB14.out).2.2.2.2.1, (hq13.out _ HB14.out).2.2.2.2.2⟩ (fun hHeld => ?_)
      clear hK K
      refine norm_ (a' := ?_) ?_ ?_
      rotate_left
      · show Act.put _ (some 111) _ = _
        simp only [Act.put, List.setIfInBounds_toArray, List.set_cons_zero, List.set_cons_succ, i64_w, i32_w]
        rfl
      refine one_ (i := 8) (N := some 112) #[true, true, true, true, true, true, true, true, true, false, false] rfl rfl (by kernel_rfl) (by decide) (fun K hK => ?_)
      refine goes_ Try.func13 (by kernel_rfl) rfl #[.agg #[.slice Aa la.length ca, .int .u64 n0, .int .u64 q0], .agg #[.slice Aq la.length cq, .int .u64 n0, .int .u64 q0]] (by rfl) rfl rfl (by simp only [List.map_toArray, List.map_cons, List.map_nil]; rfl) ?_
      with_reducible refine (hsm.out _ Aq cq HB14.out hcq hCq).mono ?_
      rintro e_ w15 ⟨rfl, hb15⟩
      refine ⟨_, rfl, ?_⟩
      have HB15 := Aside0.mk (below_step HB14.out hb15)
      clear hb15
      refine hK.out _ _ ⟨(hq13.out _ HB15.out).1, (hq13.out _ HB15.out).2.1, (hq13.out _ HB15.out).2.2.1, (hq13.out _ HB15.out).2.2.2.1, (hq13.out _ HB15.out).2.2.2.2.1, (hq13.out _ HB15.out).2.2.2.2.2⟩ (fun hHeld => ?_)
      clear hK K
      refine norm_ (a' := ?_) ?_ ?_
      rotate_left
      · show Act.put _ (some 112) _ = _
        simp only [Act.put, List.setIfInBounds_toArray, List.set_cons_zero, List.set_cons_succ, i64_w, i32_w]
        rfl
      refine p_ 9 (some 113) #[true, true, true, true, true, true, true, true, true, true, false] ?_
      refine p_ 10 (some 6) #[true, true, true, true, true, true, true, true, true, true, true] ?_
      refine done_ (by kernel_rfl) ?_
      go_wp2
      go_ret
      exact ⟨rfl, below_step hB4.out (below_step hb412.out HB15.out)⟩
theorem pulls_walk (x0 : S25) (A0 : Option Addr) (c0 : Nat) (u id : Int) (w : World) (hr0 : Kd.C k57 w A0 x0.f0.length x0.f0) (hc0 : x0.f0.length ≤ c0) (g0 : good25 x0) (w1 : (Lit.int .u64 u).wf = true) (w2 : (Lit.int .u64 id).wf = true) :
    Calls Try.prog 5 #[rv A0 x0.f0.length c0 x0.f1 x0.f2, .int .u64 u, .int .u64 id] w fun e w' => e = .returned (.bool true) ∧ Below w.heap.size w w' := by
  have hb1 := bounds_u64 g0.2.1
  exact pulls_core A0 c0 x0.f0 x0.f1 x0.f2 u id w hr0 hc0 g0.1 ⟨hb1.1, by omega⟩
end Go.Proofs.Ytbmfcikjhnnnbaa.Q
