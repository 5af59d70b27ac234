/- RelayApart: what is pushed for a user, and acknowledged, leaves another one's mails; a mail that was pushed, and acknowledged, leaves the user's.
   Conditions: the relay is read as such. -/
import Derived.Test.YtbmfcikjhnnnbaaHPure5
import Derived.Test.YtbmfcikjhnnnbaaQx122
namespace Go.Proofs.Ytbmfcikjhnnnbaa.Q
open Go.RowKit Go.Proofs.YtbmfcikjhnnnbaaW.PrintWords Go.Proofs.YtbmfcikjhnnnbaaW.PrintLast Go.Proofs.YtbmfcikjhnnnbaaW.PrintMore
set_option linter.unusedVariables false
set_option linter.unusedSimpArgs false

set_option maxHeartbeats 16000000 in
set_option maxRecDepth 100000 in
theorem apart_core (A0 : Option Addr) (c0 : Nat) (l0 : List S57) (n0 q0 u v : Int) (s : ByteArray) (w : World) (hr0 : Kd.C k57 w A0 l0.length l0) (hc0 : l0.length ≤ c0) (g0 : good22 l0) (hn0 : 0 ≤ n0 ∧ n0 ≤ 18446744073709551615) (hq0 : 0 ≤ q0 ∧ q0 < 18446744073709551616) (hsz : s.size ≤ maxLen) :
    Calls Try.prog 6 #[rv A0 l0.length c0 n0 q0, .int .u64 u, .int .u64 v, .string s] w fun e w' => e = .returned (.bool true) ∧ Below w.heap.size w w' := by
  have hsm0 := small_few g0
  obtain ⟨l, hl⟩ : ∃ l, fewL l0 = l := ⟨_, rfl⟩
  rw [hl] at hsm0
  have hl10 := hsm0.1
  have hwf := Lib.hid (small_wf hsm0)
  replace hsm0 := Lib.hid hsm0
  clear g0
  obtain ⟨w1, hw1⟩ : ∃ w1, w.alloc (.cells #[.slice A0 l0.length c0, .int .u64 n0, .int .u64 q0] 25 (0, 0)) = w1 := ⟨_, rfl⟩
  have hb1 : Below w.heap.size w w1 := by rw [← hw1]; exact below_alloc (Below.refl _ _) _
  have hs1 : w1.heap.size = w.heap.size + 1 := by rw [← hw1]; simp
  have hK1 : w1.heap[w.heap.size]? = some (.cells #[.slice A0 l0.length c0, .int .u64 n0, .int .u64 q0] 25 (0, 0)) := by rw [← hw1]; exact heap_alloc_new _ _
  have hfc := Aside0.mk (few_at A0 c0 l0 l n0 q0 w w1 hr0 hc0 hb1 hl)
  obtain ⟨z0, z1, z2⟩ := box3 hK1
  replace hs1 := Lib.hid hs1
  replace hl := Lib.hid hl
  go_enter Try.func6, Try.ntmps6
  go_wp2_with fail
  refine hfc.out.mono ?_; rintro e_ w2 ⟨A2, c2, rfl, hc2, hN2, hb2⟩
  have hK2 := (hb2.block _ (blk_lt hK1)).trans hK1
  have hB2 := Aside0.mk (below_step hb1 hb2)
  clear hfc z0 z1 z2 hK1 hb1 hb2
  obtain ⟨z0, z1, z2⟩ := box3 hK2
  go_wp2_with ((with_reducible refine gate_store (t := 25) (p := 4) rfl ?_); go_loud (refine wpList_storeBox rfl rfl 25 (.tmp 4) (.tmp 20) rfl (rv A2 l.length c2 n0 q0) [.slice A2 l.length c2, .int .u64 n0, .int .u64 q0] rfl rfl rfl (by kernel_rfl) (by simp [Value.oneCell']) hK2 rfl ?_); intro w3 hK3 hg3 hs3; clear z0 z1 z2; obtain ⟨z0, z1, z2⟩ := box3 hK3; have hN3 := Kd.N_grown hN2 hg3 (fun k hk e => by injection e with e; have := hs1.out; rcases hk with h | h <;> omega); have hC3 := (Kd.N_reads' hN3).2.2; have hT := Aside0.mk (push_calls A2 c2 l n0 q0 u s w3 hC3 hc2 (by omega) hwf.out hn0 hq0.1))
  have hB3 := Aside0.mk (hB2.out.grown hg3 hB2.out.size (fun k hk => by cases hk; exact Nat.le_refl _))
  refine hT.out.mono ?_; rintro e_ w4 ⟨hE0, hb4⟩
  have hE := push_why hE0
  have hK4 := (hb4.block _ (blk_lt hK3)).trans hK3
  have hC4 := Aside0.mk (Kd.C_below hC3 hb4)
  have hB4 := Aside0.mk (below_step hB3.out hb4)
  clear hE0 hT z0 z1 z2 hg3 hs3 hK2 hK3 hN2 hN3 hC3 hb4
  have hzz : Hid (∀ W, Calls Try.prog 13 #[zerR, zerR] W fun e w' => e = .returned (.bool true) ∧ Below W.heap.size W w') := Lib.hid fun W => by
    have h := demurralref16_Same.calls 3000 none 0 [] 0 0 none 0 [] 0 0 _ W (Kd.C_nil _ _) (Nat.le_refl _) (Kd.C_nil _ _) (Nat.le_refl _) (same_f [] [] 0 0 0 0 (by simp) (fun x hx => by cases hx) 3000 (by decide))
    rw [likeB_refl] at h
    exact h
  obtain ⟨w5, hw5⟩ : ∃ w5, w4.alloc (.cells #[.slice none 0 0, .int .u64 0, .int .u64 0] 25 (0, 0)) = w5 := ⟨_, rfl⟩
  have hb5 : Below w4.heap.size w4 w5 := by rw [← hw5]; exact below_alloc (Below.refl _ _) _
  have hK5 : w5.heap[w4.heap.size]? = some (.cells #[.slice none 0 0, .int .u64 0, .int .u64 0] 25 (0, 0)) := by rw [← hw5]; exact heap_alloc_new _ _
  rcases hE with ⟨q, rfl, hqn, hwhy⟩ | ⟨Ap, cp, rfl, hcp, hCp, hwhy⟩
  · have hq1 : (q != 0) = true := bne_iff_ne.2 hqn
    have hq2 : (q == 0) = false := beq_eq_false_iff_ne.2 hqn
    go_wp2_with ((with_reducible refine gate_store (t := 25) (p := 9) rfl ?_); go_loud (refine wpList_storeBox rfl rfl 25 (.tmp 9) (.tmp 26) rfl zerR [.slice none 0 0, .int .u64 0, .int .u64 0] rfl rfl rfl (by kernel_rfl) (by simp [Value.oneCell']) hK5 rfl ?_); intro w6 hK6 hg6 hs6; have hb6 := Aside0.mk (hb5.grown hg6 hb5.size (fun k hk => by cases hk; exact Nat.le_refl _)))
    refine (alive_calls _).mono ?_; rintro e_ w7 ⟨rfl, hb7⟩
    have hB7 := Aside0.mk (below_step (below_step hB4.out hb6.out) hb7)
    obtain ⟨z0, z1, z2⟩ := box3 ((hb7.block _ (blk_lt hK6)).trans hK6)
    clear hb7 hg6 hs6
    go_wp2_with fail
    refine (hzz.out _).mono ?_; rintro e_ w8 ⟨rfl, hb8⟩
    go_wp2
    go_ret
    exact ⟨rfl, below_step hB7.out hb8⟩
  · obtain ⟨hR, hRn, hRp, hs14⟩ := push_rel hwhy
    obtain ⟨hackL, hackA⟩ := push_ack (u := u) (s := s) hR
    have hwfp := Lib.hid (push_wf (next := q0) (u := u) hsm0.out hwf.out hsz hn0.1)
    have hord := ord_of hR
    have hlps := pushL_small hsm0.out n0 q0 u s
    have hmo : v ≠ u → mailsL (pushL l n0 q0 u s) v = mailsL l v := fun h => mails_with_other _ hord h
    have hmu : v = u → 0 < (mailsL (pushL l n0 q0 u s) v).length := fun h => by
      subst h
      rw [show mailsL (pushL l n0 q0 v s) v = mailsL l v ++ [{ f0 := q0, f1 := s, f2 := n0 }] from mails_with_same hord (by simp), List.length_append, List.length_singleton]
      omega
    have hnx := rel_next hR
    obtain ⟨lp, hlp⟩ : ∃ lp, pushL l n0 q0 u s = lp := ⟨_, rfl⟩
    rw [hlp] at hcp hCp hRp hackL hackA hlps hmo hmu ⊢
    have hwfp2 : Hid (wfB lp) := Lib.hid (by rw [← hlp]; exact hwfp.out)
    replace hlp := Lib.hid hlp
    replace hackL := Lib.hid hackL
    replace hackA := Lib.hid hackA
    replace hmo := Lib.hid hmo
    replace hmu := Lib.hid hmu
    replace hRp := Lib.hid hRp
    replace hRn := Lib.hid hRn
    replace hR := Lib.hid hR
    replace hwhy := Lib.hid hwhy
    replace hlps := Lib.hid hlps
    have hll := Lib.hid (show lp.length ≤ 1000000 by have := hlps.out.1; omega)
    clear hwfp hord
    go_wp2_with ((with_reducible refine gate_store (t := 25) (p := 9) rfl ?_); go_loud (refine wpList_storeBox rfl rfl 25 (.tmp 9) (.tmp 26) rfl (rv Ap lp.length cp n0 (q0 + 1)) [.slice Ap lp.length cp, .int .u64 n0, .int .u64 (q0 + 1)] rfl rfl rfl (by kernel_rfl) (by simp [Value.oneCell']) hK5 rfl ?_); intro w6 hK6 hg6 hs6; have hb6 := Aside0.mk (hb5.grown hg6 hb5.size (fun k hk => by cases hk; exact Nat.le_refl _)); have hK46 := (hb6.out.block _ (blk_lt hK4)).trans hK4; obtain ⟨z0, z1, z2⟩ := box3 hK46; obtain ⟨y0, y1, y2⟩ := box3 hK6; have hCp6 := Aside0.mk (Kd.C_below hCp hb6.out); have hA := Aside0.mk (ack_calls Ap cp lp n0 (q0 + 1) u q0 w6 hCp6.out hcp hll.out hwfp2.out hn0))
    refine hA.out.mono ?_; rintro e_ w7 ⟨hE7, hb7⟩
    rcases hE7 with ⟨h, _⟩ | ⟨_, h, _⟩ | ⟨_, _, la, Aa, ca, hla, rfl, hca, hCa⟩
    · rw [hRp.out] at h; cases h
    · rw [hackA.out] at h; cases h
    · rw [hackL.out] at hla
      subst hla
      have hK67 := (hb7.block _ (blk_lt hK6)).trans hK6
      have hK47 := (hb7.block _ (blk_lt hK46)).trans hK46
      have hCp7 := Aside0.mk (Kd.C_below hCp6.out hb7)
      have hC7 := Aside0.mk (Kd.C_below (Kd.C_below hC4.out hb6.out) hb7)
      have hB7 := Aside0.mk (below_step (below_step hB4.out hb6.out) hb7)
      clear hA z0 z1 z2 y0 y1 y2 hb7 hg6 hs6 hCp6 hCp
      obtain ⟨w8, hw8⟩ : ∃ w8, w7.alloc (.cells #[.slice none 0 0, .int .u64 0, .int .u64 0] 25 (0, 0)) = w8 := ⟨_, rfl⟩
      have hb8 : Below w7.heap.size w7 w8 := by rw [← hw8]; exact below_alloc (Below.refl _ _) _
      have hK8 : w8.heap[w7.heap.size]? = some (.cells #[.slice none 0 0, .int .u64 0, .int .u64 0] 25 (0, 0)) := by rw [← hw8]; exact heap_alloc_new _ _
      go_wp2_with ((with_reducible refine gate_store (t := 25) (p := 11) rfl ?_); go_loud (refine wpList_storeBox rfl rfl 25 (.tmp 11) (.tmp 42) rfl (rv Aa l.length ca n0 (q0 + 1)) [.slice Aa l.length ca, .int .u64 n0, .int .u64 (q0 + 1)] rfl rfl rfl (by kernel_rfl) (by simp [Value.oneCell']) hK8 rfl ?_); intro w9 hK9 hg9 hs9; have hb9 := Aside0.mk (hb8.grown hg9 hb8.size (fun k hk => by cases hk; exact Nat.le_refl _)); have hK49 := (hb9.out.block _ (blk_lt hK47)).trans hK47; obtain ⟨z0, z1, z2⟩ := box3 hK49; have hP1 := Aside0.mk (pull_calls A2 c2 l n0 q0 v w9 (Kd.C_below hC7.out hb9.out) hc2 (by omega) hwf.out hn0))
      have hB9 := Aside0.mk (below_step hB7.out hb9.out)
      have hq : Hid (∀ W, Below w9.heap.size w9 W → (W.cell? ⟨w.heap.size, 0, none⟩ = some (.slice A2 l.length c2) ∧ W.cell? ⟨w.heap.size, 1, none⟩ = some (.int .u64 n0) ∧ W.cell? ⟨w.heap.size, 2, none⟩ = some (.int .u64 q0)) ∧ (W.cell? ⟨w4.heap.size, 0, none⟩ = some (.slice Ap lp.length cp) ∧ W.cell? ⟨w4.heap.size, 1, none⟩ = some (.int .u64 n0) ∧ W.cell? ⟨w4.heap.size, 2, none⟩ = some (.int .u64 (q0 + 1))) ∧ (W.cell? ⟨w7.heap.size, 0, none⟩ = some (.slice Aa l.length ca) ∧ W.cell? ⟨w7.heap.size, 1, none⟩ = some (.int .u64 n0) ∧ W.cell? ⟨w7.heap.size, 2, none⟩ = some (.int .u64 (q0 + 1)))) := Lib.hid fun W hW => ⟨box3 ((hW.block _ (blk_lt hK49)).trans hK49), box3 (((below_step hb9.out hW).block _ (blk_lt hK67)).trans hK67), box3 ((hW.block _ (blk_lt hK9)).trans hK9)⟩
      have hP2 := Lib.hid (fun W (hW : Below w9.heap.size w9 W) => pull_calls Ap cp lp n0 (q0 + 1) v W (Kd.C_below hCp7.out (below_step hb9.out hW)) hcp hll.out hwfp2.out hn0)
      have hP3 := Lib.hid (fun W (hW : Below w9.heap.size w9 W) => pull_calls Aa ca l n0 (q0 + 1) v W (Kd.C_below hCa (below_step hb9.out hW)) hca (by omega) hwf.out hn0)
      have hrc : Hid (∀ W, Below w9.heap.size w9 W → Calls Try.prog 10 #[rv Aa l.length ca n0 (q0 + 1)] W fun e w' => e = .returned (.bool true) ∧ Below W.heap.size W w') := Lib.hid fun W hW => by
        have h := right_calls Aa ca l n0 (q0 + 1) W (Kd.C_below hCa (below_step hb9.out hW)) hwf.out hn0
        rw [hRn.out] at h
        exact h
      clear hg9 hs9 hK8 hK9 hK47 hK67 hK49 hb8 hC7 hCp7
      obtain ⟨ml, hml⟩ : ∃ m, mailsL l v = m := ⟨_, rfl⟩
      have hm18 : ml.length ≤ 18 := by rw [← hml]; exact mails_small hsm0.out v
      have hwp : IntKind.u64.wrap (q0 + 1) = q0 + 1 := by show (q0 + 1) % 18446744073709551616 = q0 + 1; omega
      have hbne : ((q0 + 1) != (q0 + 1)) = false := by simp
      refine hP1.out.mono ?_; rintro e_ w10 ⟨hE10, hb10⟩
      have hM10 := pull_mails hE10
      rw [hml] at hM10
      replace hb10 := Aside0.mk hb10
      clear hP1 hE10 z0 z1 z2
      have hP2' := Aside0.mk (hP2.out _ hb10.out)
      obtain ⟨-, ⟨y0, y1, y2⟩, -⟩ := hq.out _ hb10.out
      rcases hM10 with ⟨h, _⟩ | ⟨_, hnil, rfl⟩ | ⟨_, hpos, Ab, cb, rfl, hcb, hCb⟩
      · rw [hR.out] at h; cases h
      · skip
        go_wp2_with fail
        refine hP2'.out.mono ?_; rintro e_ w11 ⟨hE11, hb11⟩
        have hM11 := pull_mails hE11
        have hb911 := Aside0.mk (below_step hb10.out hb11)
        have hP3' := Aside0.mk (hP3.out _ hb911.out)
        obtain ⟨-, -, ⟨x0, x1, x2⟩⟩ := hq.out _ hb911.out
        clear hP2' hE11 y0 y1 y2
        by_cases huv : u = v
        · have hpu := hmu.out huv.symm
          have huv1 : (u == v) = true := beq_iff_eq.2 huv
          have huv2 : (u != v) = false := by rw [huv]; simp
          rcases hM11 with ⟨h, _⟩ | ⟨_, h, _⟩ | ⟨_, _, Au, cu, rfl, _, _⟩
          · rw [hRp.out] at h; cases h
          · rw [h] at hpu; cases hpu
          · obtain ⟨n2, hn2⟩ : ∃ n, ((mailsL lp v).take 5).length = n := ⟨_, rfl⟩
            rw [hn2]
            clear hn2 hpu huv
            go_wp2_with fail
            refine hP3'.out.mono ?_; rintro e_ w12 ⟨hE12, hb12⟩
            have hM12 := pull_mails hE12
            rw [hml] at hM12
            have hb912 := Aside0.mk (below_step hb911.out hb12)
            clear hP3' hE12 x0 x1 x2
            rcases hM12 with ⟨h, _⟩ | ⟨_, _, rfl⟩ | ⟨_, h, _⟩
            · rw [hRn.out] at h; cases h
            · skip
              have hms := Aside0.mk (demurralref16_MailsSame.calls 500 none 0 [] none 0 [] _ w12 (Kd.C_nil _ _) (Nat.le_refl _) (Kd.C_nil _ _) (Nat.le_refl _) (mailsame_f [] [] (by simp) 500 (by simp)))
              rw [mailsB_refl] at hms
              go_wp2_with fail
              refine hms.out.mono ?_; rintro e_ w13 ⟨rfl, hd13⟩
              have hb13 := hd13.below
              have hb913 := Aside0.mk (below_step hb912.out hb13)
              clear hms hd13
              obtain ⟨⟨z0, z1, z2⟩, -, ⟨x0, x1, x2⟩⟩ := hq.out _ hb913.out
              clear hb13
              go_wp2_with fail
              refine (hrc.out _ hb913.out).mono ?_; rintro e_ w14 ⟨rfl, hb14⟩
              have hb914 := Aside0.mk (below_step hb913.out hb14)
              clear hb14 z0 z1 z2 x0 x1 x2
              go_wp2_with fail
              refine (alive_calls _).mono ?_; rintro e_ w15 ⟨rfl, hb15⟩
              have hb915 := Aside0.mk (below_step hb914.out hb15)
              clear hb15
              go_wp2
              go_ret
              exact ⟨rfl, below_step hB9.out hb915.out⟩
            · rw [hnil] at h; cases h
        · have hvu : v ≠ u := fun e => huv e.symm
          have huv1 : (u == v) = false := beq_eq_false_iff_ne.2 huv
          have huv2 : (u != v) = true := bne_iff_ne.2 huv
          rw [hmo.out hvu, hml] at hM11
          rcases hM11 with ⟨h, _⟩ | ⟨_, _, rfl⟩ | ⟨_, h, _⟩
          · rw [hRp.out] at h; cases h
          · clear huv hvu
            go_wp2_with fail
            refine hP3'.out.mono ?_; rintro e_ w12 ⟨hE12, hb12⟩
            have hM12 := pull_mails hE12
            rw [hml] at hM12
            have hb912 := Aside0.mk (below_step hb911.out hb12)
            clear hP3' hE12 x0 x1 x2
            rcases hM12 with ⟨h, _⟩ | ⟨_, _, rfl⟩ | ⟨_, h, _⟩
            · rw [hRn.out] at h; cases h
            · skip
              have hms := Aside0.mk (demurralref16_MailsSame.calls 500 none 0 [] none 0 [] _ w12 (Kd.C_nil _ _) (Nat.le_refl _) (Kd.C_nil _ _) (Nat.le_refl _) (mailsame_f [] [] (by simp) 500 (by simp)))
              rw [mailsB_refl] at hms
              go_wp2_with fail
              refine hms.out.mono ?_; rintro e_ w13 ⟨rfl, hd13⟩
              have hb13 := hd13.below
              have hb913 := Aside0.mk (below_step hb912.out hb13)
              clear hms hd13
              obtain ⟨⟨z0, z1, z2⟩, -, ⟨x0, x1, x2⟩⟩ := hq.out _ hb913.out
              clear hb13
              go_wp2_with fail
              refine (hrc.out _ hb913.out).mono ?_; rintro e_ w14 ⟨rfl, hb14⟩
              have hb914 := Aside0.mk (below_step hb913.out hb14)
              clear hb14 z0 z1 z2 x0 x1 x2
              go_wp2_with fail
              refine (alive_calls _).mono ?_; rintro e_ w15 ⟨rfl, hb15⟩
              have hb915 := Aside0.mk (below_step hb914.out hb15)
              clear hb15
              have hms := Aside0.mk (demurralref16_MailsSame.calls 500 none 0 [] none 0 [] _ w15 (Kd.C_nil _ _) (Nat.le_refl _) (Kd.C_nil _ _) (Nat.le_refl _) (mailsame_f [] [] (by simp) 500 (by simp)))
              rw [mailsB_refl] at hms
              go_wp2_with fail
              refine hms.out.mono ?_; rintro e_ w16 ⟨rfl, hd16⟩
              have hb16 := hd16.below
              have hb916 := Aside0.mk (below_step hb915.out hb16)
              clear hms hd16
              go_wp2
              go_ret
              exact ⟨rfl, below_step hB9.out hb916.out⟩
            · rw [hnil] at h; cases h
          · rw [hnil] at h; cases h
      · obtain ⟨n, hn⟩ : ∃ n, (ml.take 5).length = n := ⟨_, rfl⟩
        rw [hn] at hcb hCb ⊢
        replace hCb := Aside0.mk hCb
        have hn55 : n ≤ 5 := by rw [← hn, List.length_take]; omega
        go_wp2_with fail
        refine hP2'.out.mono ?_; rintro e_ w11 ⟨hE11, hb11⟩
        have hM11 := pull_mails hE11
        have hb911 := Aside0.mk (below_step hb10.out hb11)
        have hP3' := Aside0.mk (hP3.out _ hb911.out)
        obtain ⟨-, -, ⟨x0, x1, x2⟩⟩ := hq.out _ hb911.out
        clear hP2' hE11 y0 y1 y2
        replace hCb := Aside0.mk (Kd.C_below hCb.out hb11)
        by_cases huv : u = v
        · have hpu := hmu.out huv.symm
          have huv1 : (u == v) = true := beq_iff_eq.2 huv
          have huv2 : (u != v) = false := by rw [huv]; simp
          rcases hM11 with ⟨h, _⟩ | ⟨_, h, _⟩ | ⟨_, _, Au, cu, rfl, _, _⟩
          · rw [hRp.out] at h; cases h
          · rw [h] at hpu; cases hpu
          · obtain ⟨n2, hn2⟩ : ∃ n, ((mailsL lp v).take 5).length = n := ⟨_, rfl⟩
            rw [hn2]
            clear hn2 hpu huv
            go_wp2_with fail
            refine hP3'.out.mono ?_; rintro e_ w12 ⟨hE12, hb12⟩
            have hM12 := pull_mails hE12
            rw [hml] at hM12
            have hb912 := Aside0.mk (below_step hb911.out hb12)
            replace hCb := Aside0.mk (Kd.C_below hCb.out hb12)
            clear hP3' hE12 x0 x1 x2
            rcases hM12 with ⟨h, _⟩ | ⟨_, h, _⟩ | ⟨_, _, Ak, ck, rfl, hck, hCk⟩
            · rw [hRn.out] at h; cases h
            · rw [h] at hpos; cases hpos
            · rw [hn] at hck hCk ⊢
              replace hCk := Aside0.mk hCk
              have hms := demurralref16_MailsSame.calls 500 Ab cb (ml.take 5) Ak ck (ml.take 5) _ w12 (by rw [hn]; exact hCb.out) (by rw [hn]; exact hcb) (by rw [hn]; exact hCk.out) (by rw [hn]; exact hck) (mailsame_f _ _ (by rw [hn]; omega) 500 (by rw [hn]; omega))
              rw [mailsB_refl, hn] at hms
              replace hms := Aside0.mk hms
              go_wp2_with fail
              refine hms.out.mono ?_; rintro e_ w13 ⟨rfl, hd13⟩
              have hb13 := hd13.below
              have hb913 := Aside0.mk (below_step hb912.out hb13)
              clear hms hd13
              obtain ⟨⟨z0, z1, z2⟩, -, ⟨x0, x1, x2⟩⟩ := hq.out _ hb913.out
              clear hb13
              go_wp2_with fail
              refine (hrc.out _ hb913.out).mono ?_; rintro e_ w14 ⟨rfl, hb14⟩
              have hb914 := Aside0.mk (below_step hb913.out hb14)
              clear hb14 z0 z1 z2 x0 x1 x2
              go_wp2_with fail
              refine (alive_calls _).mono ?_; rintro e_ w15 ⟨rfl, hb15⟩
              have hb915 := Aside0.mk (below_step hb914.out hb15)
              clear hb15
              go_wp2
              go_ret
              exact ⟨rfl, below_step hB9.out hb915.out⟩
        · have hvu : v ≠ u := fun e => huv e.symm
          have huv1 : (u == v) = false := beq_eq_false_iff_ne.2 huv
          have huv2 : (u != v) = true := bne_iff_ne.2 huv
          rw [hmo.out hvu, hml] at hM11
          rcases hM11 with ⟨h, _⟩ | ⟨_, h, _⟩ | ⟨_, _, Au, cu, rfl, hcu, hCu⟩
          · rw [hRp.out] at h; cases h
          · rw [h] at hpos; cases hpos
          · rw [hn] at hcu hCu ⊢
            replace hCu := Aside0.mk hCu
            clear huv hvu
            go_wp2_with fail
            refine hP3'.out.mono ?_; rintro e_ w12 ⟨hE12, hb12⟩
            have hM12 := pull_mails hE12
            rw [hml] at hM12
            have hb912 := Aside0.mk (below_step hb911.out hb12)
            replace hCb := Aside0.mk (Kd.C_below hCb.out hb12)
            replace hCu := Aside0.mk (Kd.C_below hCu.out hb12)
            clear hP3' hE12 x0 x1 x2
            rcases hM12 with ⟨h, _⟩ | ⟨_, h, _⟩ | ⟨_, _, Ak, ck, rfl, hck, hCk⟩
            · rw [hRn.out] at h; cases h
            · rw [h] at hpos; cases hpos
            · rw [hn] at hck hCk ⊢
              replace hCk := Aside0.mk hCk
              have hms := demurralref16_MailsSame.calls 500 Ab cb (ml.take 5) Ak ck (ml.take 5) _ w12 (by rw [hn]; exact hCb.out) (by rw [hn]; exact hcb) (by rw [hn]; exact hCk.out) (by rw [hn]; exact hck) (mailsame_f _ _ (by rw [hn]; omega) 500 (by rw [hn]; omega))
              rw [mailsB_refl, hn] at hms
              replace hms := Aside0.mk hms
              go_wp2_with fail
              refine hms.out.mono ?_; rintro e_ w13 ⟨rfl, hd13⟩
              have hb13 := hd13.below
              have hb913 := Aside0.mk (below_step hb912.out hb13)
              clear hms hd13
              obtain ⟨⟨z0, z1, z2⟩, -, ⟨x0, x1, x2⟩⟩ := hq.out _ hb913.out
              replace hCb := Aside0.mk (Kd.C_below hCb.out hb13)
              replace hCu := Aside0.mk (Kd.C_below hCu.out hb13)
              clear hb13
              go_wp2_with fail
              refine (hrc.out _ hb913.out).mono ?_; rintro e_ w14 ⟨rfl, hb14⟩
              have hb914 := Aside0.mk (below_step hb913.out hb14)
              replace hCb := Aside0.mk (Kd.C_below hCb.out hb14)
              replace hCu := Aside0.mk (Kd.C_below hCu.out hb14)
              clear hb14 z0 z1 z2 x0 x1 x2
              go_wp2_with fail
              refine (alive_calls _).mono ?_; rintro e_ w15 ⟨rfl, hb15⟩
              have hb915 := Aside0.mk (below_step hb914.out hb15)
              replace hCb := Aside0.mk (Kd.C_below hCb.out hb15)
              replace hCu := Aside0.mk (Kd.C_below hCu.out hb15)
              clear hb15
              have hms := demurralref16_MailsSame.calls 500 Ab cb (ml.take 5) Au cu (ml.take 5) _ w15 (by rw [hn]; exact hCb.out) (by rw [hn]; exact hcb) (by rw [hn]; exact hCu.out) (by rw [hn]; exact hcu) (mailsame_f _ _ (by rw [hn]; omega) 500 (by rw [hn]; omega))
              rw [mailsB_refl, hn] at hms
              replace hms := Aside0.mk hms
              go_wp2_with fail
              refine hms.out.mono ?_; rintro e_ w16 ⟨rfl, hd16⟩
              have hb16 := hd16.below
              have hb916 := Aside0.mk (below_step hb915.out hb16)
              clear hms hd16
              go_wp2
              go_ret
              exact ⟨rfl, below_step hB9.out hb916.out⟩
theorem apart_walk (x0 : S25) (A0 : Option Addr) (c0 : Nat) (u v : Int) (s : ByteArray) (w : World) (hr0 : Kd.C k57 w A0 x0.f0.length x0.f0) (hc0 : x0.f0.length ≤ c0) (g0 : good25 x0) (w1 : (Lit.int .u64 u).wf = true) (w2 : (Lit.int .u64 v).wf = true) (w3 : s.size ≤ reachBytes) :
    Calls Try.prog 6 #[rv A0 x0.f0.length c0 x0.f1 x0.f2, .int .u64 u, .int .u64 v, .string s] w fun e w' => e = .returned (.bool true) ∧ Below w.heap.size w w' := by
  have hb1 := bounds_u64 g0.2.1
  have hb2 := bounds_u64 g0.2.2
  exact apart_core A0 c0 x0.f0 x0.f1 x0.f2 u v s w hr0 hc0 g0.1 ⟨hb1.1, by omega⟩ ⟨hb2.1, by omega⟩ (Nat.le_trans w3 (by decide))
end Go.Proofs.Ytbmfcikjhnnnbaa.Q
