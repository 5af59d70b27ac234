/- DeduceGrows: what is known can be told; of what can be told nothing more can be; of more that is known not less.
   Conditions: the list and the places are read as such. -/
import Derived.Test.YtenmmeehgnkcpaaHVal5
namespace Go.Proofs.Ytenmmeehgnkcpaa.Q
open Go.RowKit Go.Proofs.YtenmmeehgnkcpaaW.PrintWords Go.Proofs.YtenmmeehgnkcpaaW.PrintLast Go.Proofs.YtenmmeehgnkcpaaW.PrintMore
set_option linter.unusedVariables false
set_option linter.unusedSimpArgs false

theorem ans_open {base : Nat} {p : List Int × Int} {xs : List Int} {q : Int} (h : p = (xs, q)) {e : Ending} {w : World} (hE : AnsE base p e w) : ∃ D n, e = .returned (.tuple #[.slice D xs.length n, .int .i64 q]) ∧ xs.length ≤ n ∧ (Kd.int .i64).C w D xs.length xs := by
  subst h
  obtain ⟨v, rfl, hR⟩ := hE
  obtain ⟨D, n, rfl, h1, h2⟩ := Kd.R_reads hR
  exact ⟨D, n, rfl, h1, h2⟩
set_option maxHeartbeats 16000000 in
set_option maxRecDepth 100000 in
theorem grows_core (A0 : Option Addr) (c0 : Nat) (l0 : List S28) (A1 : Option Addr) (c1 : Nat) (l1 : List Int) (i0 : Int) (w : World) (hr0 : k28.C w A0 l0.length l0) (hc0 : l0.length ≤ c0) (hr1 : (Kd.int .i64).C w A1 l1.length l1) (hc1 : l1.length ≤ c1) (hw0 : ∀ t ∈ l0, wfT t) :
    Calls Try.prog 5 #[.slice A0 l0.length c0, .slice A1 l1.length c1, .int .i64 i0] w fun e w' => e = .returned (.bool true) ∧ Below w.heap.size w w' := by
  have hfew := Aside0.mk (few21_calls A0 c0 l0 A1 c1 l1 w hr0 hc0 hr1 hc1)
  obtain ⟨l, hl⟩ : ∃ l, l0.take 30 = l := ⟨_, rfl⟩
  obtain ⟨ks, hks⟩ : ∃ ks, l1.take 12 = ks := ⟨_, rfl⟩
  have hn : l.length ≤ 30 := by rw [← hl, List.length_take]; omega
  have hm : ks.length ≤ 12 := by rw [← hks, List.length_take]; omega
  have hwf : ∀ t ∈ l, wfT t := fun t ht => hw0 t (List.mem_of_mem_take (hl ▸ ht))
  rw [hl, hks] at hfew
  replace hwf := Lib.hid hwf
  clear hl hks hr0 hr1 hw0
  have halive : Hid (∀ W, Calls Try.prog 19 #[] W fun e w' => e = .returned (.bool true) ∧ Below W.heap.size W w') := Lib.hid fun W => demurrallaw21_alive.calls 100 true W (alive_f 100 (by decide))
  go_enter Try.func5, Try.ntmps5
  go_wp2_with fail
  refine hfew.out.mono ?_; rintro e_ w1 ⟨⟨A, c, B, d, rfl, hc, hd, hC, hD⟩, hb1⟩
  have hall := Aside0.mk (all_calls A c l B d ks w1 hC hc (by omega) hwf.out hD hd (by omega))
  replace hC := Aside0.mk hC
  replace hD := Aside0.mk hD
  replace hb1 := Aside0.mk hb1
  clear hfew
  go_wp2_with fail
  refine hall.out.mono ?_; rintro e_ w2 ⟨hE, hb2⟩
  have hB2 := Aside0.mk (below_step hb1.out hb2)
  replace hC := Aside0.mk (Kd.C_below hC.out hb2)
  replace hD := Aside0.mk (Kd.C_below hD.out hb2)
  clear hall hb1 hb2
  by_cases hwhy : whyD l ks = 0
  · obtain ⟨a, ha⟩ : ∃ a, placesL (allB l (ofL l.length ks)) = a := ⟨_, rfl⟩
    obtain ⟨Da, na, rfl, hna, hDa⟩ := ans_open ((allR_eq hwhy).trans (by rw [ha])) hE
    have hal : a.length ≤ 30 := by
      have := allR_len l ks
      rw [allR_eq hwhy, ha] at this
      exact Nat.le_trans this hn
    have hAgain : Hid (∀ W, Below w2.heap.size w2 W → Calls Try.prog 18 #[.slice A l.length c, .slice Da a.length na] W fun e w' => (∃ E m, e = .returned (.tuple #[.slice E a.length m, .int .i64 0]) ∧ a.length ≤ m ∧ (Kd.int .i64).C w' E a.length a) ∧ Below W.heap.size W w') := Lib.hid fun W hW =>
      (all_calls A c l Da na a W (Kd.C_below hC.out hW) hc (by omega) hwf.out (Kd.C_below hDa hW) hna (by omega)).mono fun e w' h => ⟨ans_open (by rw [← ha]; exact again_eq hwhy) h.1, h.2⟩
    have hStep : Hid (∀ W, Below w2.heap.size w2 W → Calls Try.prog 20 #[.slice A l.length c, .slice Da a.length na] W fun e w' => (∃ E m, e = .returned (.tuple #[.slice E a.length m, .int .i64 0]) ∧ a.length ≤ m ∧ (Kd.int .i64).C w' E a.length a) ∧ Below W.heap.size W w') := Lib.hid fun W hW =>
      (step_calls A c l Da na a W (Kd.C_below hC.out hW) hc (by omega) hwf.out (Kd.C_below hDa hW) hna (by omega)).mono fun e w' h => ⟨ans_open (by rw [← ha]; exact step_eq hwhy) h.1, h.2⟩
    have hCon : Hid (∀ W, Below w2.heap.size w2 W → ∀ k, Calls Try.prog 22 #[.slice Da a.length na, .int .i64 k] W fun e w' => e = .returned (.bool (hasN a k)) ∧ Below W.heap.size W w') := Lib.hid fun W hW k => contains_calls Da na a k W (Kd.C_below hDa hW) hna (by omega)
    have hNum : Hid (∀ W E m, Below w2.heap.size w2 W → (Kd.int .i64).C W E a.length a → a.length ≤ m → Calls Try.prog 21 #[.slice E a.length m, .slice Da a.length na] W fun e w' => e = .returned (.bool true) ∧ Below W.heap.size W w') := Lib.hid fun W E m hW hEE hm =>
      (demurralref20_Numbers.calls 100 E m a Da na a true W hEE hm (Kd.C_below hDa hW) hna ((numbers_f a a (by omega) 100 (by omega)).trans (by rw [decide_eq_true rfl]))).mono fun e w' h => ⟨h.1, h.2.below⟩
    have hAt : Hid (∀ W, Below w2.heap.size w2 W → ∀ j : Nat, j < a.length → ∃ ad, Da = some ad ∧ W.cell? (ad.add j) = some (.int .i64 (rd a (j : Int)))) := Lib.hid fun W hW j hj => by
      obtain ⟨ad, e, h⟩ := Kd.at_int (Kd.C_below hDa hW) (j : Int) (by omega) (by omega)
      rw [Int.toNat_natCast] at h
      exact ⟨ad, e, h⟩
    have hKn : Hid (∀ j : Nat, j < ks.length → hasN a (rd ks (j : Int)) = true) := Lib.hid fun j hj => by
      rw [← ha, rd_natI ks j hj]
      exact known_told hwhy _ (List.getElem_mem hj)
    have hMore : Hid (∀ i : Int, 0 ≤ i → i < l.length → ∃ b : List Int, b.length ≤ 30 ∧ (∀ j : Nat, j < a.length → hasN b (rd a (j : Int)) = true) ∧ hasN b i = true ∧ ∀ W, Below w2.heap.size w2 W → ∀ g, W.heap[g]? = some (.cells #[.int .i64 i] 3 (0, 0)) → ∃ A2 c2 W2, (Builtin.append_ #[33, 33] 33 #[.slice B ks.length ks.length, .slice (some ⟨g, 0, none⟩) 1 1]).run Try.prog W = .ok (.slice A2 (ks.length + 1) c2) W2 ∧ Below W.heap.size W W2 ∧
        Calls Try.prog 18 #[.slice A l.length c, .slice A2 (ks.length + 1) c2] W2 fun e w' => (∃ E m, e = .returned (.tuple #[.slice E b.length m, .int .i64 0]) ∧ b.length ≤ m ∧ (Kd.int .i64).C w' E b.length b) ∧ Below W2.heap.size W2 w') := Lib.hid fun i h0 h1 => by
      refine ⟨placesL (allB l (ofL l.length (ks ++ [i]))), ?_, fun j hj => ?_, one_told hwhy h0 h1, fun W hW g hg => ?_⟩
      · have := allR_len l (ks ++ [i])
        rw [allR_eq (why_more hwhy h0 h1)] at this
        exact Nat.le_trans this hn
      · rw [rd_natI a j hj]
        exact more_told _ (by rw [ha]; exact List.getElem_mem hj)
      · obtain ⟨A2, c2, W2, r1, r2, r3, r4⟩ := clipped_run B ks i W W g (Kd.C_below hD.out hW) (Below.refl _ _) hg (by omega)
        have hcall := all_calls A c l A2 c2 (ks ++ [i]) W2 (Kd.C_below hC.out (below_step hW r4)) hc (by omega) hwf.out (by rw [List.length_append, List.length_singleton]; exact r3) (by rw [List.length_append, List.length_singleton]; exact r2) (by rw [List.length_append, List.length_singleton]; omega)
        rw [List.length_append, List.length_singleton] at hcall
        exact ⟨A2, c2, W2, r1, r4, hcall.mono fun e w' h => ⟨ans_open (allR_eq (why_more hwhy h0 h1)) h.1, h.2⟩⟩
    have hclip := Aside0.mk (fun W => clipI_calls B d ks W hd)
    replace ha := Lib.hid ha
    replace hwhy := Lib.hid hwhy
    clear hC hDa hE
    go_wp2_with fail
    refine (hAgain.out w2 (Below.refl _ _)).mono ?_; rintro e_ w3 ⟨⟨E3, m3, rfl, hm3, hC3⟩, hb3⟩
    replace hb3 := Aside0.mk hb3
    replace hC3 := Aside0.mk hC3
    go_wp2_with fail
    refine (hStep.out w3 hb3.out).mono ?_; rintro e_ w4 ⟨⟨E4, m4, rfl, hm4, hC4⟩, hb4⟩
    replace hC3 := Aside0.mk (Kd.C_below hC3.out hb4)
    replace hb4 := Aside0.mk (below_step hb3.out hb4)
    replace hC4 := Aside0.mk hC4
    clear hb3 hAgain hStep
    go_wp2_with fail
    refine (hNum.out w4 E3 m3 hb4.out hC3.out hm3).mono ?_; rintro e_ w5 ⟨rfl, hb5⟩
    replace hC4 := Aside0.mk (Kd.C_below hC4.out hb5)
    replace hb5 := Aside0.mk (below_step hb4.out hb5)
    clear hC3 hb4
    go_wp2_with fail
    refine (hNum.out w5 E4 m4 hb5.out hC4.out hm4).mono ?_; rintro e_ w6 ⟨rfl, hb6⟩
    replace hb6 := Aside0.mk (below_step hb5.out hb6)
    clear hC4 hb5 hNum
    go_wp2_with fail
    refine (halive.out w6).mono ?_; rintro e_ w7 ⟨rfl, hb7⟩
    replace hb7 := Aside0.mk (below_step hb6.out hb7)
    clear hb6 halive
    go_wp2
    go_loopw [75] (fun v wr => ∃ j : Nat, j ≤ ks.length ∧ v = .int .i64 (j : Int) ∧ Below w2.heap.size w2 wr) (fun v _ => ks.length - (intOf v).toNat)
    case atStart => exact ⟨0, by omega, rfl, hb7.out⟩
    case round =>
      obtain ⟨j, hj, rfl, hB⟩ := hrel
      by_cases hlt : (j : Int) < ks.length
      · have hjlt : j < ks.length := by omega
        obtain ⟨ad, eB, k0⟩ := Kd.at_int (Kd.C_below hD.out hB) (j : Int) (by omega) hlt
        subst eB
        rw [Int.toNat_natCast] at k0
        have hcon := hCon.out wr hB (rd ks (j : Int))
        rw [hKn.out j hjlt] at hcon
        replace hcon := Aside0.mk hcon
        replace hB := Aside0.mk hB
        go_wp2_with fail
        refine hcon.out.mono ?_; rintro e_ w8 ⟨rfl, hb8⟩
        have hB8 := Aside0.mk (below_step hB.out hb8)
        clear hcon hb8 k0
        go_wp2
        go_roundw
        case rel => exact ⟨j + 1, by omega, by go_num, hB8.out⟩
        case measure => simp [intOf]; omega
      · obtain rfl : j = ks.length := by omega
        by_cases hl0 : l.length = 0
        · have e1 : ((l.length : Int) == 0) = true := beq_iff_eq.2 (by omega)
          have hBf := Aside0.mk (below_step hB2.out hB)
          clear hB
          go_wp2
          go_ret
          exact ⟨rfl, hBf.out⟩
        · have e1 : ((l.length : Int) == 0) = false := beq_eq_false_iff_ne.2 (by omega)
          have e2 : ¬ (l.length : Int) = 0 := by omega
          obtain ⟨p0, p1⟩ := mod_in i0 l.length (by omega) (by omega)
          obtain ⟨i, hi⟩ : ∃ i, Int.tmod (wrap64 (Int.tmod i0 (l.length : Int) + (l.length : Int))) (l.length : Int) = i := ⟨_, rfl⟩
          rw [hi] at p0 p1
          obtain ⟨b, hb30, hbj, hbi, hrunM⟩ := hMore.out i p0 p1
          obtain ⟨w9, hw9⟩ : ∃ w9, wr.alloc (.cells #[.int .i64 i] 3 (0, 0)) = w9 := ⟨_, rfl⟩
          have hb9 : Below wr.heap.size wr w9 := by rw [← hw9]; exact below_alloc (Below.refl _ _) _
          have hK9 : w9.heap[wr.heap.size]? = some (.cells #[.int .i64 i] 3 (0, 0)) := by rw [← hw9]; exact heap_alloc_new _ _
          obtain ⟨A2, c2, w10, hrun, hb10, hcall⟩ := hrunM w9 (below_step hB hb9) wr.heap.size hK9
          have hB10 := Aside0.mk (below_step (below_step hB hb9) hb10)
          replace hrun := Lib.hid hrun
          replace hcall := Aside0.mk hcall
          replace hbj := Lib.hid hbj
          replace hbi := Lib.hid hbi
          clear hrunM hMore hB hb9 hK9 hb10 hKn p0 p1
          go_wp2_with fail
          refine (hclip.out _).mono ?_; rintro e_ w8 ⟨rfl, rfl⟩
          clear hclip
          go_wp2_with ((with_reducible refine gate_dst (N := 103) rfl ?_); go_loud (refine wpList_appendRun rfl (.tmp 100) (.tmp 102) rfl rfl rfl hrun.out ?_))
          refine hcall.out.mono ?_; rintro e_ w11 ⟨⟨E, m, rfl, hmE, hE⟩, hb11⟩
          have hConB : Hid (∀ W, Below w11.heap.size w11 W → ∀ k, Calls Try.prog 22 #[.slice E b.length m, .int .i64 k] W fun e w' => e = .returned (.bool (hasN b k)) ∧ Below W.heap.size W w') := Lib.hid fun W hW k => contains_calls E m b k W (Kd.C_below hE hW) hmE (by omega)
          have hB11 := Aside0.mk (below_step hB10.out hb11)
          clear hcall hrun hE hb11 hB10 hw9 hi hCon
          go_wp2
          go_loopw [109] (fun v wr => ∃ j : Nat, j ≤ a.length ∧ v = .int .i64 (j : Int) ∧ Below w11.heap.size w11 wr) (fun v _ => a.length - (intOf v).toNat)
          case atStart => exact ⟨0, by omega, rfl, Below.refl _ _⟩
          case round =>
            obtain ⟨q, hq, rfl, hB⟩ := hrel
            by_cases hqlt : (q : Int) < a.length
            · have hqn : q < a.length := by omega
              obtain ⟨ad, eD, k0⟩ := hAt.out wr (below_step hB11.out hB) q hqn
              subst eD
              have hcon := hConB.out wr hB (rd a (q : Int))
              rw [hbj.out q hqn] at hcon
              replace hcon := Aside0.mk hcon
              replace hB := Aside0.mk hB
              go_wp2_with fail
              refine hcon.out.mono ?_; rintro e_ w12 ⟨rfl, hb12⟩
              have hB12 := Aside0.mk (below_step hB.out hb12)
              clear hcon hb12 k0
              go_wp2
              go_roundw
              case rel => exact ⟨q + 1, by omega, by go_num, hB12.out⟩
              case measure => simp [intOf]; omega
            · obtain rfl : q = a.length := by omega
              have hcon := hConB.out wr hB i
              rw [hbi.out] at hcon
              replace hcon := Aside0.mk hcon
              replace hB := Aside0.mk hB
              go_wp2_with fail
              refine hcon.out.mono ?_; rintro e_ w12 ⟨rfl, hb12⟩
              have hBf := Aside0.mk (below_step hB2.out (below_step hB11.out (below_step hB.out hb12)))
              clear hcon hb12
              go_wp2
              go_ret
              exact ⟨rfl, hBf.out⟩
  · obtain ⟨D, n, rfl, hn1, hD1⟩ := ans_open (show allR l ks = ([], whyD l ks) from if_neg hwhy) hE
    obtain ⟨q, hq⟩ : ∃ q, whyD l ks = q := ⟨_, rfl⟩
    rw [hq] at hwhy ⊢
    have e1 : (q == 0) = false := beq_eq_false_iff_ne.2 hwhy
    have e2 : (q != 0) = true := bne_iff_ne.2 hwhy
    replace hq := Lib.hid hq
    clear hE hD1 hn1 hC hD
    go_wp2_with fail
    refine (halive.out w2).mono ?_; rintro e_ w3 ⟨rfl, hb3⟩
    have hB3 := Aside0.mk (below_step hB2.out hb3)
    clear hb3
    go_wp2
    go_ret
    exact ⟨rfl, hB3.out⟩
theorem grows_walk (A0 : Option Addr) (c0 : Nat) (l0 : List S28) (A1 : Option Addr) (c1 : Nat) (l1 : List Int) (i0 : Int) (w : World) (hr0 : k28.C w A0 l0.length l0) (hc0 : l0.length ≤ c0) (hr1 : (Kd.int .i64).C w A1 l1.length l1) (hc1 : l1.length ≤ c1) (g0 : good23 l0) (g1 : good33 l1) (w2 : (Lit.int .i64 i0).wf = true) :
    Calls Try.prog 5 #[.slice A0 l0.length c0, .slice A1 l1.length c1, .int .i64 i0] w fun e w' => e = .returned (.bool true) ∧ Below w.heap.size w w' :=
  grows_core A0 c0 l0 A1 c1 l1 i0 w hr0 hc0 hr1 hc1 (wf_of_good g0)
end Go.Proofs.Ytenmmeehgnkcpaa.Q
