/- EquivNames: a frame that is another one with other names can't be told apart from it.
   Conditions: the kinds and the frame are read as numbers. -/
import Derived.Test.YtenmmeehgnkcpaaHStep
import Derived.Test.YtenmmeehgnkcpaaHNames
namespace Go.Proofs.Ytenmmeehgnkcpaa.Q
open Go.RowKit Go.Proofs.YtenmmeehgnkcpaaW.PrintWords Go.Proofs.YtenmmeehgnkcpaaW.PrintLast Go.Proofs.YtenmmeehgnkcpaaW.PrintMore
set_option linter.unusedVariables false
set_option linter.unusedSimpArgs false
abbrev bHLawNames0 : Array Bool := #[false, false, false, false, false, false, false, false, false, false, false, false, false, false, false, false, false, false, false, false, false, false]
abbrev bHLawNames1 : Array Bool := #[true, false, false, false, false, false, false, false, false, false, false, false, false, false, false, false, false, false, false, false, false, false]
abbrev bHLawNames2 : Array Bool := #[true, true, false, false, false, false, false, false, false, false, false, false, false, false, false, false, false, false, false, false, false, false]
abbrev bHLawNames3 : Array Bool := #[true, true, true, false, false, false, false, false, false, false, false, false, false, false, false, false, false, false, false, false, false, false]
abbrev bHLawNames4 : Array Bool := #[true, true, true, false, true, false, false, false, false, false, false, false, false, false, false, false, false, false, false, false, false, false]
abbrev bHLawNames5 : Array Bool := #[true, true, true, false, true, true, false, false, false, false, false, false, false, false, false, false, false, false, false, false, false, false]
abbrev bHLawNames6 : Array Bool := #[true, true, true, false, true, true, false, false, false, true, false, false, false, false, false, false, false, false, false, false, false, false]
abbrev bHLawNames7 : Array Bool := #[true, true, true, false, true, true, false, false, false, true, true, false, false, false, false, false, false, false, false, false, false, false]
abbrev bHLawNames8 : Array Bool := #[true, true, true, false, true, true, false, false, false, true, true, true, false, false, false, false, false, false, false, false, false, false]
abbrev bHLawNames9 : Array Bool := #[true, true, true, false, true, true, false, false, false, true, true, true, false, true, false, false, false, false, false, false, false, false]
abbrev bHLawNames10 : Array Bool := #[true, true, true, false, true, true, false, false, false, true, true, true, false, true, false, true, false, false, false, false, false, false]
abbrev bHLawNames11 : Array Bool := #[true, true, true, false, true, true, false, false, false, true, true, true, false, true, false, true, true, false, false, false, false, false]
abbrev bHLawNames12 : Array Bool := #[true, true, true, true, true, true, false, false, false, true, true, true, false, true, false, true, true, false, false, false, false, false]
abbrev bHLawNames13 : Array Bool := #[true, true, true, true, true, true, true, false, false, true, true, true, false, true, false, true, true, false, false, false, false, false]
abbrev bHLawNames14 : Array Bool := #[true, true, true, true, true, true, true, true, false, true, true, true, false, true, false, true, true, false, false, false, false, false]
abbrev bHLawNames15 : Array Bool := #[true, true, true, true, true, true, true, true, true, true, true, true, false, true, false, true, true, false, false, false, false, false]
abbrev bHLawNames16 : Array Bool := #[true, true, true, true, true, true, true, true, true, true, true, true, true, true, false, true, true, false, false, false, false, false]
abbrev bHLawNames17 : Array Bool := #[true, true, true, true, true, true, true, true, true, true, true, true, true, true, true, true, true, false, false, false, false, false]
abbrev bHLawNames18 : Array Bool := #[true, true, true, true, true, true, true, true, true, true, true, true, true, true, true, true, true, true, false, false, false, false]
abbrev bHLawNames19 : Array Bool := #[true, true, true, true, true, true, true, true, true, true, true, true, true, true, true, true, true, true, true, false, false, false]
abbrev bHLawNames20 : Array Bool := #[true, true, true, true, true, true, true, true, true, true, true, true, true, true, true, true, true, true, true, false, true, false]
abbrev bHLawNames21 : Array Bool := #[true, true, true, true, true, true, true, true, true, true, true, true, true, true, true, true, true, true, true, true, true, false]
abbrev bHLawNames22 : Array Bool := #[true, true, true, true, true, true, true, true, true, true, true, true, true, true, true, true, true, true, true, true, true, true]
abbrev bHLawNames23 : Array Bool := #[false, false, false, false, false, false, false, false, false, false, false, false, false, false, false, false, false, false]
abbrev bHLawNames24 : Array Bool := #[true, false, false, false, false, false, false, false, false, false, false, false, false, false, false, false, false, false]
abbrev bHLawNames25 : Array Bool := #[true, true, false, false, false, false, false, false, false, false, false, false, false, false, false, false, false, false]
abbrev bHLawNames26 : Array Bool := #[true, true, false, true, false, false, false, false, false, false, false, false, false, false, false, false, false, false]
abbrev bHLawNames27 : Array Bool := #[true, true, false, true, false, false, false, false, true, false, false, false, false, false, false, false, false, false]
abbrev bHLawNames28 : Array Bool := #[true, true, false, true, false, false, false, false, true, true, false, false, false, false, false, false, false, false]
abbrev bHLawNames29 : Array Bool := #[true, true, false, true, false, false, false, false, true, true, false, true, false, false, false, false, false, false]
abbrev bHLawNames30 : Array Bool := #[true, true, true, true, false, false, false, false, true, true, false, true, false, false, false, false, false, false]
abbrev bHLawNames31 : Array Bool := #[true, true, true, true, true, false, false, false, true, true, false, true, false, false, false, false, false, false]
abbrev bHLawNames32 : Array Bool := #[true, true, true, true, true, true, false, false, true, true, false, true, false, false, false, false, false, false]
abbrev bHLawNames33 : Array Bool := #[true, true, true, true, true, true, false, false, true, true, true, true, false, false, false, false, false, false]
abbrev bHLawNames34 : Array Bool := #[true, true, true, true, true, true, false, false, true, true, true, true, true, false, false, false, false, false]
abbrev bHLawNames35 : Array Bool := #[true, true, true, true, true, true, false, false, true, true, true, true, true, true, false, false, false, false]
abbrev bHLawNames36 : Array Bool := #[true, true, true, true, true, true, true, true, true, true, true, true, true, true, true, false, false, false]
abbrev bHLawNames37 : Array Bool := #[true, true, true, true, true, true, true, false, true, true, true, true, true, true, false, false, false, false]
abbrev bHLawNames38 : Array Bool := #[true, true, true, true, true, true, false, false, true, true, true, true, true, true, true, false, false, false]
abbrev bHLawNames39 : Array Bool := #[true, true, true, true, true, true, true, true, true, true, true, true, true, true, false, false, false, false]
abbrev bHLawNames40 : Array Bool := #[true, true, true, true, true, true, true, false, true, true, true, true, true, true, true, false, false, false]
abbrev bHLawNames41 : Array Bool := #[true, true, true, true, true, true, true, true, true, true, true, true, true, true, true, true, false, false]
abbrev bHLawNames42 : Array Bool := #[true, true, true, true, true, true, true, true, true, true, true, true, true, true, true, true, true, false]
abbrev bHLawNames43 : Array Bool := #[true, true, true, true, true, true, true, true, true, true, true, true, true, true, true, true, true, true]

attribute [local go_sem] max2_int min2_int max_two min_two
theorem namesL_len (n : Nat) : (namesL n).length = n := by simp [namesL]
theorem namesL_succ (n : Nat) : namesL (n + 1) = namesL n ++ [⟨0, ((n : Nat) : Int) + 1, 0, 0⟩] := by simp [namesL, List.range_succ]
set_option maxHeartbeats 40000000 in
set_option maxRecDepth 100000 in
theorem names_walk (A0 : Option Addr) (c0 : Nat) (l0 : List Int) (A1 : Option Addr) (c1 : Nat) (l1 : List Int) (w : World) (hr0 : (Kd.int .i64).C w A0 l0.length l0) (hc0 : l0.length ≤ c0) (hr1 : (Kd.int .i64).C w A1 l1.length l1) (hc1 : l1.length ≤ c1) (g0 : good33 l0) (g1 : good33 l1) :
    Calls Try.prog 10 #[.slice A0 l0.length c0, .slice A1 l1.length c1] w fun e w' => e = .returned (.bool true) ∧ Below w.heap.size w w' := by
  replace hr0 := Aside0.mk hr0
  replace hr1 := Aside0.mk hr1
  replace g0 := Lib.hid g0
  replace g1 := Lib.hid g1
  go_enter Try.func10, Try.ntmps10
  go_wp2_with fail
  go_loopw [23, 5] (fun v k wr => ∃ n : Nat, n ≤ 6 ∧ v = .int .u64 (n : Int) ∧ (∃ D d, k = .slice D n d) ∧ wr.ownsRow w.heap.size 28 4 k (namesL n).length ((namesL n).flatMap cellsT) ∧ Below w.heap.size w wr) (fun v _ _ => 6 - (intOf v).toNat)
  case atStart => exact ⟨0, by omega, rfl, ⟨none, 0, rfl⟩, ⟨rfl, .inl ⟨rfl, rfl⟩⟩, Below.refl _ _⟩
  case round =>
    obtain ⟨n, hn, rfl, ⟨D, d, rfl⟩, hown, hB⟩ := hrel
    by_cases hlt : (n : Int) < 6
    · have hlt2 : n < 6 := by omega
      have hw1 : ((n : Int) + 1) % 18446744073709551616 = (n : Int) + 1 := by omega
      have hwr : w.heap.size ≤ wr.heap.size := hB.size
      replace hB := Aside0.mk hB
      replace hown := Aside0.mk hown
      go_wp2_with ((with_reducible refine gate_dst (N := 31) rfl ?_); go_loud (obtain ⟨D', d', W', hrun, ho, hg⟩ := run_app28 (W := wr.alloc (.cells #[.int .i64 0, .int .u64 ((n : Int) + 1), .int .i64 0, .int .i64 0] 28)) (g := wr.heap.size) (⟨0, ((n : Nat) : Int) + 1, 0, 0⟩ : S28) (hown.out.alloc _) (by simp; omega) (by rw [namesL_len]; omega) (heap_alloc_new _ _); refine wp_app rfl (.tmp 26) (.tmp 30) rfl rfl rfl hrun ?_))
      have hB2 : Below w.heap.size w W' := (below_alloc hB.out _).grown hg (by simp; omega) (fun k hk => own_base hown.out k hk)
      refine ⟨⟨n + 1, by omega, by go_num, ⟨D', d', by rw [namesL_len]⟩, ?_, hB2⟩, by simp [intOf]; omega⟩
      rw [namesL_succ, List.length_append, List.length_singleton]
      rw [List.length_append, List.length_singleton] at ho
      exact ho
    · obtain rfl : n = 6 := by omega
      have h66 : ((6 : Nat) : Int) = 6 := rfl
      rw [h66]
      clear h66
      clear hlt
      obtain ⟨w1, hw1⟩ : ∃ w1, (wr.alloc (.cells #[.int .i64 0, .int .i64 1, .int .i64 2] 3)).alloc (.cells #[.int .i64 3, .int .i64 4, .int .i64 5] 3) = w1 := ⟨_, rfl⟩
      obtain ⟨w2, hw2⟩ : ∃ w2, w1.alloc (.cells #[.slice none 0 0, .slice none 0 0] 65) = w2 := ⟨_, rfl⟩
      have hs1 : w1.heap.size = wr.heap.size + 1 + 1 := by rw [← hw1]; simp
      obtain ⟨g, hg⟩ : ∃ g, wr.heap.size + 1 + 1 = g := ⟨_, rfl⟩
      have hK2 : w2.heap[g]? = some (.cells #[.slice none 0 0, .slice none 0 0] 65 (0, 0)) := by rw [← hw2, ← hg, ← hs1]; exact heap_alloc_new _ _
      have hbw1 : Below wr.heap.size wr w1 := by rw [← hw1]; exact below_alloc (below_alloc (Below.refl _ _) _) _
      have hbw2 : Below w1.heap.size w1 w2 := by rw [← hw2]; exact below_alloc (Below.refl _ _) _
      obtain ⟨hp1, hq1⟩ := two_new wr (.cells #[.int .i64 0, .int .i64 1, .int .i64 2] 3) (.cells #[.int .i64 3, .int .i64 4, .int .i64 5] 3)
      rw [hw1] at hp1 hq1
      obtain ⟨N, hN⟩ : ∃ N : Nat, min l0.length 8 = N := ⟨_, rfl⟩
      have hN1 : N ≤ l0.length := by omega
      have hN8 : N ≤ 8 := by omega
      have hmn : (if 8 < (l0.length : Int) then 8 else (l0.length : Int)) = (N : Int) := by split <;> omega
      have hmn2 : min (l0.length : Int) 8 = (N : Int) := by omega
      replace hN := Lib.hid hN
      go_wp2_with ((with_reducible refine gate_store (t := 65) (p := 7) rfl ?_); go_loud (refine wpList_storeBox rfl rfl 65 (.tmp 7) (.tmp 35) rfl (.agg #[.slice (some ⟨wr.heap.size, 0, none⟩) 3 3, .slice (some ⟨wr.heap.size + 1, 0, none⟩) 3 3]) [.slice (some ⟨wr.heap.size, 0, none⟩) 3 3, .slice (some ⟨wr.heap.size + 1, 0, none⟩) 3 3] rfl rfl rfl (by kernel_rfl) (by simp [Value.oneCell']) hK2 rfl ?_; intro w3 hK3 hg3 hs3))
      have hS3 : OwnS w3 w.heap.size g 0 (.slice D 6 d) (namesL 6) (.slice (some ⟨wr.heap.size, 0, none⟩) 3 3) [0, 1, 2] (.slice (some ⟨wr.heap.size + 1, 0, none⟩) 3 3) [3, 4, 5] := by
        have hle := hB.size
        have r1 := own_on (own_on hown hbw1) hbw2
        have hp3 := (hg3.block _ (Nat.lt_of_lt_of_le (blk_lt hp1) hbw2.size) (by simp; omega)).trans ((hbw2.block _ (blk_lt hp1)).trans hp1)
        have hq3 := (hg3.block _ (Nat.lt_of_lt_of_le (blk_lt hq1) hbw2.size) (by simp; omega)).trans ((hbw2.block _ (blk_lt hq1)).trans hq1)
        exact ⟨r1.kept hg3 (.inr (own_ne r1 hK2 (by decide)).symm), ⟨rfl, .inr ⟨_, 3, _, rfl, hle, hp3, Nat.le_refl _, by decide, rfl, rfl⟩⟩, ⟨rfl, .inr ⟨_, 3, _, rfl, by omega, hq3, Nat.le_refl _, by decide, rfl, rfl⟩⟩, hK3, .inr (by simp [Value.ownBlock]), by omega⟩
      have hB3 : Below w.heap.size w w3 := (hB.trans ((hbw1.trans (hbw2.mono hbw1.size)).mono hB.size)).grown hg3 (by have := hB.size; have := hbw2.size; omega) (fun k hk => by injection hk with hk; have := hB.size; omega)
      clear hK2 hbw1 hbw2 hp1 hq1 hK3 hg3 hs3 hs1 hown hB hw1 hw2
      go_loopw [42, 5] (fun v k wx => ∃ n : Nat, n ≤ N ∧ v = .int .i64 (n : Int) ∧ ∃ L p q vv uu, (∃ D d, k = .slice D L.length d) ∧ Two n L p q ∧ OwnS wx w.heap.size g 0 k L vv p uu q ∧ Below w.heap.size w wx) (fun v _ _ => N - (intOf v).toNat)
      case atStart => exact ⟨0, by omega, rfl, namesL 6, [0, 1, 2], [3, 4, 5], _, _, ⟨_, _, rfl⟩, Two.start, hS3, hB3⟩
      case round =>
        obtain ⟨n, hnN, rfl, L, p, q, vv, uu, ⟨D, d, rfl⟩, hT, hS, hB⟩ := hrel
        clear hS3 hB3
        by_cases hlt : (n : Int) < N
        · have hC0 := Kd.C_below hr0.out hB
          obtain ⟨ax, rfl, x1⟩ := Kd.at_int hC0 (n : Int) (by omega) (by omega)
          rw [Int.toNat_natCast] at x1
          have hkd : -9223372036854775808 ≤ rd l0 (n : Int) ∧ rd l0 (n : Int) < 9223372036854775808 := by
            have h := g0.out.2 _ (List.getElem_mem (show n < l0.length by omega))
            rw [← rdI_nat l0 n (by omega)] at h
            have e1 : IntKind.i64.min = -9223372036854775808 := rfl
            have e2 : IntKind.i64.max = 9223372036854775807 := rfl
            simp only [Lit.wf, Bool.and_eq_true, decide_eq_true_eq] at h
            omega
          generalize rd l0 (n : Int) = kd at x1 hkd
          obtain ⟨q7, q70, a7, a70, z, ak, i0, i1, fk, f, hq7, hq70, hab7, hab70, habk, hz, hi0, hi1, hfk, hfw, hi0n, hi1n, hf1, hf6⟩ := kind_facts kd hkd.1 hkd.2 n (by omega)
          replace hq7 := Lib.hid hq7
          replace hi0 := Lib.hid hi0
          replace hi1 := Lib.hid hi1
          replace hz := Lib.hid hz
          replace hfk := Lib.hid hfk
          replace hfw := Lib.hid hfw
          replace hq70 := Lib.hid hq70
          clear hkd hC0
          go_wp2_with fail
          go_loopw [47, 5] (fun v k wx => ∃ s : Nat, s ≤ 2 ∧ v = .int .i64 (s : Int) ∧ ∃ L' p' q' v' u', (∃ D d, k = .slice D L'.length d) ∧ Sides s L p q f i0 i1 L' p' q' ∧ OwnS wx w.heap.size g s k L' v' p' u' q' ∧ Below w.heap.size w wx) (fun v _ _ => 2 - (intOf v).toNat)
          case atStart => exact ⟨0, by omega, rfl, L, p, q, vv, uu, ⟨_, _, rfl⟩, .inl ⟨rfl, rfl, rfl, rfl⟩, hS, hB⟩
          case round =>
            clear hS hB
            obtain ⟨s, hs2, rfl, L', p', q', v', u', ⟨D', d', rfl⟩, hSd, hS, hB⟩ := hrel
            by_cases hls : (s : Int) < 2
            · have hls2 : s < 2 := by omega
              obtain ⟨hpl, hLl, hX0, hX1⟩ := hSd.facts hT (by omega) hf1 hf6 hi0n hi1n hls2
              obtain ⟨Dp, dp, rfl, hdp, hCp, -⟩ := ownI_slice hS.rp rfl
              have hj0 : Int.tmod a7 (p'.length : Int) = (i0 : Int) := by rw [hpl]; exact hi0.out
              have hj1 : Int.tmod z (p'.length : Int) = (i1 : Int) := by rw [hpl]; exact hi1.out
              have hk0 : (i0 : Int) < p'.length := by omega
              have hk1 : (i1 : Int) < p'.length := by omega
              have hpz : ((p'.length : Int) = 0) = False := eq_false (by omega)
              have hpn : (p' = []) = False := eq_false (fun e => by rw [e] at hk0; exact absurd hk0 (by simp))
              replace hpl := Lib.hid hpl
              have hq7' := hq7.out
              have hq70' := hq70.out
              have hz' := hz.out
              subst hq7'
              subst hq70'
              subst hz'
              obtain ⟨wx, rfl⟩ : ∃ wx, wx = wr := ⟨_, rfl⟩
              have hcell := hS.cell hls2
              obtain ⟨ap, rfl, y0⟩ := Kd.at_int hCp (i0 : Int) (by omega) (by omega)
              obtain ⟨ap', e1, y1⟩ := Kd.at_int hCp (i1 : Int) (by omega) (by omega)
              injection e1 with e1
              subst e1
              rw [Int.toNat_natCast] at y0 y1
              have hnext := Lib.hid (fun (W : World) (lv v : Value) => hSd.next hls2 (W := W) (base := w.heap.size) (g := g) (lv := lv) (v := v) (u := u'))
              generalize hx0 : rd p' (i0 : Int) = x0 at y0 hX0 hnext
              generalize hx1 : rd p' (i1 : Int) = x1 at y1 hX1 hnext
              have hq : Hid (∀ W, Below wx.heap.size wx W → W.cell? (ap.add i0) = some (.int .i64 x0) ∧ W.cell? (ap.add i1) = some (.int .i64 x1)) := Lib.hid (fun W hW => ⟨sees_old (fun k hk => hW.block k hk) _ _ y0, sees_old (fun k hk => hW.block k hk) _ _ y1⟩)
              go_wp2_with fail
              refine start_ (n := 22) (S := fun w' => w'.cell? (ap.add i0) = some (.int .i64 x0) ∧ w'.cell? (ap.add i1) = some (.int .i64 x1)) (ds := []) bHLawNames0 (by kernel_rfl) rfl rfl ⟨(hq.out _ (Below.refl wx.heap.size wx).drew).1, (hq.out _ (Below.refl wx.heap.size wx).drew).2⟩ (fun hHeld => ?_)
              refine p_ 0 (some 53) bHLawNames1 ?_
              refine p_ 1 (some 54) bHLawNames2 ?_
              refine p_ 2 (some 55) bHLawNames3 ?_
              refine p_ 4 (some 57) bHLawNames4 ?_
              refine p_ 5 (some 58) bHLawNames5 ?_
              refine p_ 9 (some 62) bHLawNames6 ?_
              refine p_ 10 (some 63) bHLawNames7 ?_
              refine p_ 11 (some 64) bHLawNames8 ?_
              refine p_ 13 (some 66) bHLawNames9 ?_
              refine p_ 15 (some 68) bHLawNames10 ?_
              refine p_ 16 (some 69) bHLawNames11 ?_
              refine one_ (i := 3) (N := some 56) bHLawNames12 rfl rfl (by kernel_rfl) (by decide) (fun K hK => ?_)
              refine goes_ Try.func40 (by kernel_rfl) rfl #[.int .i64 (wrap64 (kd.tdiv 7))] (by rfl) rfl rfl (by simp only [List.map_toArray, List.map_cons, List.map_nil]; rfl) ?_
              with_reducible refine (hab7.out _).mono ?_
              rintro e wq ⟨rfl, hbq⟩
              refine ⟨_, rfl, ?_⟩
              have hbc := below_step (Below.refl wx.heap.size wx).drew hbq
              refine hK.out _ _ ⟨(hq.out _ hbc).1, (hq.out _ hbc).2⟩ (fun hHeld => ?_)
              clear hK K
              refine norm_ (a' := ?_) ?_ ?_
              rotate_left
              · show Act.put _ (some 56) _ = _
                simp only [Act.put, List.setIfInBounds_toArray, List.set_cons_zero, List.set_cons_succ, i64_w, i32_w]
                rfl
              refine p_ 6 (some 59) bHLawNames13 ?_
              refine p_ 7 (some 60) bHLawNames14 ?_
              refine t_ 8 (some 61) bHLawNames15 hHeld (hv := by rintro w' ⟨s0, s1⟩; go_simp; with_reducible rfl) (h := ?_)
              refine one_ (i := 12) (N := some 65) bHLawNames16 rfl rfl (by kernel_rfl) (by decide) (fun K hK => ?_)
              refine goes_ Try.func40 (by kernel_rfl) rfl #[.int .i64 (wrap64 (kd.tdiv 70))] (by rfl) rfl rfl (by simp only [List.map_toArray, List.map_cons, List.map_nil]; rfl) ?_
              with_reducible refine (hab70.out _).mono ?_
              rintro e wq2 ⟨rfl, hbq2⟩
              refine ⟨_, rfl, ?_⟩
              have hbd := below_step hbc hbq2
              refine hK.out _ _ ⟨(hq.out _ hbd).1, (hq.out _ hbd).2⟩ (fun hHeld => ?_)
              clear hK K
              refine norm_ (a' := ?_) ?_ ?_
              rotate_left
              · show Act.put _ (some 65) _ = _
                simp only [Act.put, List.setIfInBounds_toArray, List.set_cons_zero, List.set_cons_succ, i64_w, i32_w]
                rfl
              refine p_ 14 (some 67) bHLawNames17 ?_
              refine p_ 17 (some 70) bHLawNames18 ?_
              refine p_ 18 (some 71) bHLawNames19 ?_
              refine p_ 20 (some 12) bHLawNames20 ?_
              refine t_ 19 (some 72) bHLawNames21 hHeld (hv := by rintro w' ⟨s0, s1⟩; go_simp; with_reducible rfl) (h := ?_)
              refine p_ 21 (some 13) bHLawNames22 ?_
              refine done_ (by kernel_rfl) ?_
              clear hHeld hbc hbq hbq2 hq y0 y1 hcell hj0 hj1 hk0 hk1 hpz hpn
              go_wp2_with fail
              refine (habk.out _).mono ?_; rintro e_ w6 ⟨rfl, hb6⟩
              have hB6 := below_step hbd hb6
              obtain ⟨w7, hw7⟩ : ∃ w7, w6.alloc (.cells #[.int .i64 0, .int .u64 0, .int .i64 0, .int .i64 0] 28) = w7 := ⟨_, rfl⟩
              have hK7 : w7.heap[w6.heap.size]? = some (.cells #[.int .i64 0, .int .u64 0, .int .i64 0, .int .i64 0] 28 (0, 0)) := by rw [← hw7]; exact heap_alloc_new _ _
              have hB7 : Below wx.heap.size wx w7 := by rw [← hw7]; exact below_alloc hB6 _
              have hg6 : wx.heap.size ≤ w6.heap.size := hB6.size
              clear hb6 hB6 hbd
              rcases (show f = 1 ∨ f = 2 ∨ f = 3 ∨ (f ≠ 1 ∧ f ≠ 2 ∧ f ≠ 3) by omega) with rfl | rfl | rfl | ⟨n1, n2, n3⟩
              · have hfk' := hfk.out
                have hfw' := hfw.out
                have hTT : mkT 1 x0 x1 = (⟨1, 0, x0, 0⟩ : S28) := rfl
                rw [hTT] at hnext
                go_wp2_with (first | ((with_reducible refine gate_store (t := 28) (p := 14) rfl ?_); go_loud (refine wpList_storeBox rfl rfl 28 (.tmp 14) (.tmp 79) rfl (.agg #[.int .i64 1, .int .u64 0, .int .i64 x0, .int .i64 x1]) [.int .i64 1, .int .u64 0, .int .i64 x0, .int .i64 x1] rfl rfl rfl (by kernel_rfl) (by simp [Value.oneCell']) hK7 rfl ?_; intro w8 hK8 hg8 hs8; have hB8 := hB7.grown hg8 hB7.size (fun k hk => by injection hk; omega); obtain ⟨z0, z1, z2, z3⟩ := box4 hK8)) | ((with_reducible refine gate_store (t := 3) (p := 89) rfl ?_); go_loud (refine wpList_storeField rfl rfl 3 (.tmp 89) (.const (.int .i64 0)) rfl 3 (.int .i64 0) (#[.int .i64 1, .int .u64 0, .int .i64 x0, .int .i64 0]) rfl rfl rfl (by kernel_rfl) (by simp [Value.oneCell']) hK8 (Nat.le_of_ble_eq_true rfl) rfl ?_; intro w9 hK9 hg9 hs9; have hB9 := hB8.grown hg9 hB8.size (fun k hk => by injection hk; omega); clear z0 z1 z2 z3; obtain ⟨z0, z1, z2, z3⟩ := box4 hK9)))
                have hBt := hB9
                have hKt := hK9
                obtain ⟨wt, rfl⟩ : ∃ wt, wt = w9 := ⟨_, rfl⟩
                clear z0 z1 z2 z3 hfk' hfw' hTT
                have hSt := hS.below hBt (Nat.le_refl _)
                obtain ⟨hdt, hCt⟩ := ownT_C hSt.rl rfl
                have hpl2 := place_calls D' d' L' (⟨1, 0, x0, 0⟩ : S28) wt hCt hdt (by omega)
                dsimp only at hpl2
                have hBx := below_step hB hBt
                clear hCt
                refine hpl2.mono ?_; rintro e_ wp ⟨rfl, hbp⟩
                have hSp := hSt.on hbp
                have hBp := below_step hBx hbp
                have hKp := (hbp.block _ (blk_lt hKt)).trans hKt
                have hle : w.heap.size ≤ wp.heap.size := hBp.size
                clear hpl2 hKt hSt hBt hBx hbp hB7 hK7 hw7
                obtain ⟨z0, z1, z2, z3⟩ := box4 hKp
                have hcell := hSp.cell hls2
                by_cases hix : 0 ≤ idxT L' (⟨1, 0, x0, 0⟩ : S28)
                · have e1 : putL L' (⟨1, 0, x0, 0⟩ : S28) = L' := if_pos hix
                  have e2 : putI L' (⟨1, 0, x0, 0⟩ : S28) = idxT L' (⟨1, 0, x0, 0⟩ : S28) := if_pos hix
                  rw [e1, e2] at hnext
                  have hneg : decide (idxT L' (⟨1, 0, x0, 0⟩ : S28) < 0) = false := decide_eq_false (by omega)
                  generalize idxT L' (⟨1, 0, x0, 0⟩ : S28) = ix at hnext hneg ⊢
                  clear e1 e2 hix
                  go_wp2_with (first | ((with_reducible refine gate_dst (N := 119) rfl ?_); go_loud (obtain ⟨D5, d5, W5, hrun, ho5, hg5, hat5⟩ := run_app3 (W := wp.alloc (.cells #[.int .i64 ix] 3)) (g := wp.heap.size) ix (own_on hSp.rp (below_alloc (Below.refl _ _) _)) (by simp; omega) (by have := hpl.out; omega) (heap_alloc_new _ _); have hS5 := hSp.on (below_alloc (Below.refl wp.heap.size wp) (.cells #[.int .i64 ix] 3)); refine wp_app rfl (.tmp 116) (.tmp 118) rfl rfl rfl hrun ?_; have hbx5 := (hg5.block _ (blk_lt hS5.box) (own_ne hS5.rp hS5.box (by decide))).trans hS5.box)) | ((with_reducible refine gate_store (t := 33) (p := 120) rfl ?_); go_loud (refine wpList_storeField rfl rfl 33 (.tmp 120) (.tmp 119) rfl s (.slice D5 (p'.length + 1) d5) _ rfl rfl rfl (by kernel_rfl) (by simp [Value.oneCell']) hbx5 (pair_size _ _ hls2) rfl ?_; intro W6 hK6 hg6 hs6)))
                  have hO := (hS5.papp hls2 hg5 ho5 (hat5.imp id (fun e => ⟨_, e, Nat.le_refl _⟩)) hK6 hg6)
                  have hB6 := ((below_alloc hBp (.cells #[.int .i64 ix] 3)).grown hg5 (by simp; omega) (fun k hk => own_base hS5.rp k hk)).grown hg6 (by have := hg5.size; simp at this; omega) (fun k hk => by injection hk with hk; have := hS5.le; omega)
                  obtain ⟨l2, v2, p2, u2, q2, hO2, hSd2, hl2⟩ := hnext.out W6 _ _ hO
                  clear hO hS5 hg5 ho5 hat5 hK6 hg6 hs6 hbx5
                  go_roundw
                  case rel => exact ⟨s + 1, by omega, by go_num, l2, p2, q2, v2, u2, ⟨D', d', by rw [hl2]⟩, hSd2, hO2, hB6⟩
                  case measure => simp [intOf]; omega
                · have e1 : putL L' (⟨1, 0, x0, 0⟩ : S28) = L' ++ [(⟨1, 0, x0, 0⟩ : S28)] := if_neg hix
                  have e2 : putI L' (⟨1, 0, x0, 0⟩ : S28) = (L'.length : Int) := if_neg hix
                  rw [e1, e2] at hnext
                  have hneg : decide (idxT L' (⟨1, 0, x0, 0⟩ : S28) < 0) = true := decide_eq_true (by omega)
                  generalize idxT L' (⟨1, 0, x0, 0⟩ : S28) = ix at hneg ⊢
                  clear e1 e2 hix
                  go_wp2_with (first | ((with_reducible refine gate_dst (N := 112) rfl ?_); go_loud (obtain ⟨D4, d4, W4, hrun4, ho4, hg4⟩ := run_app28 (W := wp.alloc (.cells #[.int .i64 1, .int .u64 0, .int .i64 x0, .int .i64 0] 28)) (g := wp.heap.size) (⟨1, 0, x0, 0⟩ : S28) (own_on hSp.rl (below_alloc (Below.refl _ _) _)) (by simp; omega) (by omega) (heap_alloc_new _ _); have hS4 := (hSp.on (below_alloc (Below.refl wp.heap.size wp) (.cells #[.int .i64 1, .int .u64 0, .int .i64 x0, .int .i64 0] 28))).lapp hg4 ho4; refine wp_app rfl (.tmp 109) (.tmp 111) rfl rfl rfl hrun4 ?_; have hcell4 := hS4.cell hls2; have hB4 := (below_alloc hBp (.cells #[.int .i64 1, .int .u64 0, .int .i64 x0, .int .i64 0] 28)).grown hg4 (by simp; omega) (fun k hk => own_base hSp.rl k hk); have hle4 : w.heap.size ≤ W4.heap.size := hB4.size)) | ((with_reducible refine gate_dst (N := 119) rfl ?_); go_loud (obtain ⟨D5, d5, W5, hrun, ho5, hg5, hat5⟩ := run_app3 (W := W4.alloc (.cells #[.int .i64 (L'.length : Int)] 3)) (g := W4.heap.size) (L'.length : Int) (own_on hS4.rp (below_alloc (Below.refl _ _) _)) (by simp; omega) (by have := hpl.out; omega) (heap_alloc_new _ _); have hS5 := hS4.on (below_alloc (Below.refl W4.heap.size W4) (.cells #[.int .i64 (L'.length : Int)] 3)); refine wp_app rfl (.tmp 116) (.tmp 118) rfl rfl rfl hrun ?_; have hbx5 := (hg5.block _ (blk_lt hS5.box) (own_ne hS5.rp hS5.box (by decide))).trans hS5.box)) | ((with_reducible refine gate_store (t := 33) (p := 120) rfl ?_); go_loud (refine wpList_storeField rfl rfl 33 (.tmp 120) (.tmp 119) rfl s (.slice D5 (p'.length + 1) d5) _ rfl rfl rfl (by kernel_rfl) (by simp [Value.oneCell']) hbx5 (pair_size _ _ hls2) rfl ?_; intro W6 hK6 hg6 hs6)))
                  have hO := (hS5.papp hls2 hg5 ho5 (hat5.imp id (fun e => ⟨_, e, Nat.le_refl _⟩)) hK6 hg6)
                  have hB6 := ((below_alloc hB4 (.cells #[.int .i64 (L'.length : Int)] 3)).grown hg5 (by simp; omega) (fun k hk => own_base hS5.rp k hk)).grown hg6 (by have := hg5.size; simp at this; omega) (fun k hk => by injection hk with hk; have := hS5.le; omega)
                  obtain ⟨l2, v2, p2, u2, q2, hO2, hSd2, hl2⟩ := hnext.out W6 _ _ hO
                  clear hO hS5 hg5 ho5 hat5 hK6 hg6 hs6 hbx5
                  go_roundw
                  case rel => exact ⟨s + 1, by omega, by go_num, l2, p2, q2, v2, u2, ⟨D4, d4, by rw [hl2]; rw [List.length_append, List.length_singleton]⟩, hSd2, hO2, hB6⟩
                  case measure => simp [intOf]; omega
              · have hfk' := hfk.out
                have hfw' := hfw.out
                obtain ⟨xm, hxm⟩ : ∃ y, (if x1 < x0 then x1 else x0) = y := ⟨_, rfl⟩
                obtain ⟨xM, hxM⟩ : ∃ y, (if x0 < x1 then x1 else x0) = y := ⟨_, rfl⟩
                have hTT : mkT 2 x0 x1 = (⟨2, 0, xm, xM⟩ : S28) := by rw [← hxm, ← hxM]; rfl
                rw [hTT] at hnext
                go_wp2_with (first | ((with_reducible refine gate_store (t := 28) (p := 14) rfl ?_); go_loud (refine wpList_storeBox rfl rfl 28 (.tmp 14) (.tmp 79) rfl (.agg #[.int .i64 2, .int .u64 0, .int .i64 x0, .int .i64 x1]) [.int .i64 2, .int .u64 0, .int .i64 x0, .int .i64 x1] rfl rfl rfl (by kernel_rfl) (by simp [Value.oneCell']) hK7 rfl ?_; intro w8 hK8 hg8 hs8; have hB8 := hB7.grown hg8 hB7.size (fun k hk => by injection hk; omega); obtain ⟨z0, z1, z2, z3⟩ := box4 hK8)) | ((with_reducible refine gate_store (t := 3) (p := 100) rfl ?_); go_loud (refine wpList_storeField rfl rfl 3 (.tmp 100) (.tmp 96) rfl 2 (.int .i64 xm) (#[.int .i64 2, .int .u64 0, .int .i64 xm, .int .i64 x1]) rfl rfl rfl (by kernel_rfl) (by simp [Value.oneCell']) hK8 (Nat.le_of_ble_eq_true rfl) rfl ?_; intro w9 hK9 hg9 hs9; have hB9 := hB8.grown hg9 hB8.size (fun k hk => by injection hk; omega); clear z0 z1 z2 z3; obtain ⟨z0, z1, z2, z3⟩ := box4 hK9)) | ((with_reducible refine gate_store (t := 3) (p := 101) rfl ?_); go_loud (refine wpList_storeField rfl rfl 3 (.tmp 101) (.tmp 99) rfl 3 (.int .i64 xM) (#[.int .i64 2, .int .u64 0, .int .i64 xm, .int .i64 xM]) rfl rfl rfl (by kernel_rfl) (by simp [Value.oneCell']) hK9 (Nat.le_of_ble_eq_true rfl) rfl ?_; intro w10 hK10 hg10 hs10; have hB10 := hB9.grown hg10 hB9.size (fun k hk => by injection hk; omega); clear z0 z1 z2 z3; obtain ⟨z0, z1, z2, z3⟩ := box4 hK10)))
                have hBt := hB10
                have hKt := hK10
                obtain ⟨wt, rfl⟩ : ∃ wt, wt = w10 := ⟨_, rfl⟩
                clear z0 z1 z2 z3 hfk' hfw' hTT
                have hSt := hS.below hBt (Nat.le_refl _)
                obtain ⟨hdt, hCt⟩ := ownT_C hSt.rl rfl
                have hpl2 := place_calls D' d' L' (⟨2, 0, xm, xM⟩ : S28) wt hCt hdt (by omega)
                dsimp only at hpl2
                have hBx := below_step hB hBt
                clear hCt
                refine hpl2.mono ?_; rintro e_ wp ⟨rfl, hbp⟩
                have hSp := hSt.on hbp
                have hBp := below_step hBx hbp
                have hKp := (hbp.block _ (blk_lt hKt)).trans hKt
                have hle : w.heap.size ≤ wp.heap.size := hBp.size
                clear hpl2 hKt hSt hBt hBx hbp hB7 hK7 hw7
                obtain ⟨z0, z1, z2, z3⟩ := box4 hKp
                have hcell := hSp.cell hls2
                by_cases hix : 0 ≤ idxT L' (⟨2, 0, xm, xM⟩ : S28)
                · have e1 : putL L' (⟨2, 0, xm, xM⟩ : S28) = L' := if_pos hix
                  have e2 : putI L' (⟨2, 0, xm, xM⟩ : S28) = idxT L' (⟨2, 0, xm, xM⟩ : S28) := if_pos hix
                  rw [e1, e2] at hnext
                  have hneg : decide (idxT L' (⟨2, 0, xm, xM⟩ : S28) < 0) = false := decide_eq_false (by omega)
                  generalize idxT L' (⟨2, 0, xm, xM⟩ : S28) = ix at hnext hneg ⊢
                  clear e1 e2 hix
                  go_wp2_with (first | ((with_reducible refine gate_dst (N := 119) rfl ?_); go_loud (obtain ⟨D5, d5, W5, hrun, ho5, hg5, hat5⟩ := run_app3 (W := wp.alloc (.cells #[.int .i64 ix] 3)) (g := wp.heap.size) ix (own_on hSp.rp (below_alloc (Below.refl _ _) _)) (by simp; omega) (by have := hpl.out; omega) (heap_alloc_new _ _); have hS5 := hSp.on (below_alloc (Below.refl wp.heap.size wp) (.cells #[.int .i64 ix] 3)); refine wp_app rfl (.tmp 116) (.tmp 118) rfl rfl rfl hrun ?_; have hbx5 := (hg5.block _ (blk_lt hS5.box) (own_ne hS5.rp hS5.box (by decide))).trans hS5.box)) | ((with_reducible refine gate_store (t := 33) (p := 120) rfl ?_); go_loud (refine wpList_storeField rfl rfl 33 (.tmp 120) (.tmp 119) rfl s (.slice D5 (p'.length + 1) d5) _ rfl rfl rfl (by kernel_rfl) (by simp [Value.oneCell']) hbx5 (pair_size _ _ hls2) rfl ?_; intro W6 hK6 hg6 hs6)))
                  have hO := (hS5.papp hls2 hg5 ho5 (hat5.imp id (fun e => ⟨_, e, Nat.le_refl _⟩)) hK6 hg6)
                  have hB6 := ((below_alloc hBp (.cells #[.int .i64 ix] 3)).grown hg5 (by simp; omega) (fun k hk => own_base hS5.rp k hk)).grown hg6 (by have := hg5.size; simp at this; omega) (fun k hk => by injection hk with hk; have := hS5.le; omega)
                  obtain ⟨l2, v2, p2, u2, q2, hO2, hSd2, hl2⟩ := hnext.out W6 _ _ hO
                  clear hO hS5 hg5 ho5 hat5 hK6 hg6 hs6 hbx5
                  go_roundw
                  case rel => exact ⟨s + 1, by omega, by go_num, l2, p2, q2, v2, u2, ⟨D', d', by rw [hl2]⟩, hSd2, hO2, hB6⟩
                  case measure => simp [intOf]; omega
                · have e1 : putL L' (⟨2, 0, xm, xM⟩ : S28) = L' ++ [(⟨2, 0, xm, xM⟩ : S28)] := if_neg hix
                  have e2 : putI L' (⟨2, 0, xm, xM⟩ : S28) = (L'.length : Int) := if_neg hix
                  rw [e1, e2] at hnext
                  have hneg : decide (idxT L' (⟨2, 0, xm, xM⟩ : S28) < 0) = true := decide_eq_true (by omega)
                  generalize idxT L' (⟨2, 0, xm, xM⟩ : S28) = ix at hneg ⊢
                  clear e1 e2 hix
                  go_wp2_with (first | ((with_reducible refine gate_dst (N := 112) rfl ?_); go_loud (obtain ⟨D4, d4, W4, hrun4, ho4, hg4⟩ := run_app28 (W := wp.alloc (.cells #[.int .i64 2, .int .u64 0, .int .i64 xm, .int .i64 xM] 28)) (g := wp.heap.size) (⟨2, 0, xm, xM⟩ : S28) (own_on hSp.rl (below_alloc (Below.refl _ _) _)) (by simp; omega) (by omega) (heap_alloc_new _ _); have hS4 := (hSp.on (below_alloc (Below.refl wp.heap.size wp) (.cells #[.int .i64 2, .int .u64 0, .int .i64 xm, .int .i64 xM] 28))).lapp hg4 ho4; refine wp_app rfl (.tmp 109) (.tmp 111) rfl rfl rfl hrun4 ?_; have hcell4 := hS4.cell hls2; have hB4 := (below_alloc hBp (.cells #[.int .i64 2, .int .u64 0, .int .i64 xm, .int .i64 xM] 28)).grown hg4 (by simp; omega) (fun k hk => own_base hSp.rl k hk); have hle4 : w.heap.size ≤ W4.heap.size := hB4.size)) | ((with_reducible refine gate_dst (N := 119) rfl ?_); go_loud (obtain ⟨D5, d5, W5, hrun, ho5, hg5, hat5⟩ := run_app3 (W := W4.alloc (.cells #[.int .i64 (L'.length : Int)] 3)) (g := W4.heap.size) (L'.length : Int) (own_on hS4.rp (below_alloc (Below.refl _ _) _)) (by simp; omega) (by have := hpl.out; omega) (heap_alloc_new _ _); have hS5 := hS4.on (below_alloc (Below.refl W4.heap.size W4) (.cells #[.int .i64 (L'.length : Int)] 3)); refine wp_app rfl (.tmp 116) (.tmp 118) rfl rfl rfl hrun ?_; have hbx5 := (hg5.block _ (blk_lt hS5.box) (own_ne hS5.rp hS5.box (by decide))).trans hS5.box)) | ((with_reducible refine gate_store (t := 33) (p := 120) rfl ?_); go_loud (refine wpList_storeField rfl rfl 33 (.tmp 120) (.tmp 119) rfl s (.slice D5 (p'.length + 1) d5) _ rfl rfl rfl (by kernel_rfl) (by simp [Value.oneCell']) hbx5 (pair_size _ _ hls2) rfl ?_; intro W6 hK6 hg6 hs6)))
                  have hO := (hS5.papp hls2 hg5 ho5 (hat5.imp id (fun e => ⟨_, e, Nat.le_refl _⟩)) hK6 hg6)
                  have hB6 := ((below_alloc hB4 (.cells #[.int .i64 (L'.length : Int)] 3)).grown hg5 (by simp; omega) (fun k hk => own_base hS5.rp k hk)).grown hg6 (by have := hg5.size; simp at this; omega) (fun k hk => by injection hk with hk; have := hS5.le; omega)
                  obtain ⟨l2, v2, p2, u2, q2, hO2, hSd2, hl2⟩ := hnext.out W6 _ _ hO
                  clear hO hS5 hg5 ho5 hat5 hK6 hg6 hs6 hbx5
                  go_roundw
                  case rel => exact ⟨s + 1, by omega, by go_num, l2, p2, q2, v2, u2, ⟨D4, d4, by rw [hl2]; rw [List.length_append, List.length_singleton]⟩, hSd2, hO2, hB6⟩
                  case measure => simp [intOf]; omega
              · have hfk' := hfk.out
                have hfw' := hfw.out
                have hTT : mkT 3 x0 x1 = (⟨3, 0, x0, 0⟩ : S28) := rfl
                rw [hTT] at hnext
                go_wp2_with (first | ((with_reducible refine gate_store (t := 28) (p := 14) rfl ?_); go_loud (refine wpList_storeBox rfl rfl 28 (.tmp 14) (.tmp 79) rfl (.agg #[.int .i64 3, .int .u64 0, .int .i64 x0, .int .i64 x1]) [.int .i64 3, .int .u64 0, .int .i64 x0, .int .i64 x1] rfl rfl rfl (by kernel_rfl) (by simp [Value.oneCell']) hK7 rfl ?_; intro w8 hK8 hg8 hs8; have hB8 := hB7.grown hg8 hB7.size (fun k hk => by injection hk; omega); obtain ⟨z0, z1, z2, z3⟩ := box4 hK8)) | ((with_reducible refine gate_store (t := 3) (p := 89) rfl ?_); go_loud (refine wpList_storeField rfl rfl 3 (.tmp 89) (.const (.int .i64 0)) rfl 3 (.int .i64 0) (#[.int .i64 3, .int .u64 0, .int .i64 x0, .int .i64 0]) rfl rfl rfl (by kernel_rfl) (by simp [Value.oneCell']) hK8 (Nat.le_of_ble_eq_true rfl) rfl ?_; intro w9 hK9 hg9 hs9; have hB9 := hB8.grown hg9 hB8.size (fun k hk => by injection hk; omega); clear z0 z1 z2 z3; obtain ⟨z0, z1, z2, z3⟩ := box4 hK9)))
                have hBt := hB9
                have hKt := hK9
                obtain ⟨wt, rfl⟩ : ∃ wt, wt = w9 := ⟨_, rfl⟩
                clear z0 z1 z2 z3 hfk' hfw' hTT
                have hSt := hS.below hBt (Nat.le_refl _)
                obtain ⟨hdt, hCt⟩ := ownT_C hSt.rl rfl
                have hpl2 := place_calls D' d' L' (⟨3, 0, x0, 0⟩ : S28) wt hCt hdt (by omega)
                dsimp only at hpl2
                have hBx := below_step hB hBt
                clear hCt
                refine hpl2.mono ?_; rintro e_ wp ⟨rfl, hbp⟩
                have hSp := hSt.on hbp
                have hBp := below_step hBx hbp
                have hKp := (hbp.block _ (blk_lt hKt)).trans hKt
                have hle : w.heap.size ≤ wp.heap.size := hBp.size
                clear hpl2 hKt hSt hBt hBx hbp hB7 hK7 hw7
                obtain ⟨z0, z1, z2, z3⟩ := box4 hKp
                have hcell := hSp.cell hls2
                by_cases hix : 0 ≤ idxT L' (⟨3, 0, x0, 0⟩ : S28)
                · have e1 : putL L' (⟨3, 0, x0, 0⟩ : S28) = L' := if_pos hix
                  have e2 : putI L' (⟨3, 0, x0, 0⟩ : S28) = idxT L' (⟨3, 0, x0, 0⟩ : S28) := if_pos hix
                  rw [e1, e2] at hnext
                  have hneg : decide (idxT L' (⟨3, 0, x0, 0⟩ : S28) < 0) = false := decide_eq_false (by omega)
                  generalize idxT L' (⟨3, 0, x0, 0⟩ : S28) = ix at hnext hneg ⊢
                  clear e1 e2 hix
                  go_wp2_with (first | ((with_reducible refine gate_dst (N := 119) rfl ?_); go_loud (obtain ⟨D5, d5, W5, hrun, ho5, hg5, hat5⟩ := run_app3 (W := wp.alloc (.cells #[.int .i64 ix] 3)) (g := wp.heap.size) ix (own_on hSp.rp (below_alloc (Below.refl _ _) _)) (by simp; omega) (by have := hpl.out; omega) (heap_alloc_new _ _); have hS5 := hSp.on (below_alloc (Below.refl wp.heap.size wp) (.cells #[.int .i64 ix] 3)); refine wp_app rfl (.tmp 116) (.tmp 118) rfl rfl rfl hrun ?_; have hbx5 := (hg5.block _ (blk_lt hS5.box) (own_ne hS5.rp hS5.box (by decide))).trans hS5.box)) | ((with_reducible refine gate_store (t := 33) (p := 120) rfl ?_); go_loud (refine wpList_storeField rfl rfl 33 (.tmp 120) (.tmp 119) rfl s (.slice D5 (p'.length + 1) d5) _ rfl rfl rfl (by kernel_rfl) (by simp [Value.oneCell']) hbx5 (pair_size _ _ hls2) rfl ?_; intro W6 hK6 hg6 hs6)))
                  have hO := (hS5.papp hls2 hg5 ho5 (hat5.imp id (fun e => ⟨_, e, Nat.le_refl _⟩)) hK6 hg6)
                  have hB6 := ((below_alloc hBp (.cells #[.int .i64 ix] 3)).grown hg5 (by simp; omega) (fun k hk => own_base hS5.rp k hk)).grown hg6 (by have := hg5.size; simp at this; omega) (fun k hk => by injection hk with hk; have := hS5.le; omega)
                  obtain ⟨l2, v2, p2, u2, q2, hO2, hSd2, hl2⟩ := hnext.out W6 _ _ hO
                  clear hO hS5 hg5 ho5 hat5 hK6 hg6 hs6 hbx5
                  go_roundw
                  case rel => exact ⟨s + 1, by omega, by go_num, l2, p2, q2, v2, u2, ⟨D', d', by rw [hl2]⟩, hSd2, hO2, hB6⟩
                  case measure => simp [intOf]; omega
                · have e1 : putL L' (⟨3, 0, x0, 0⟩ : S28) = L' ++ [(⟨3, 0, x0, 0⟩ : S28)] := if_neg hix
                  have e2 : putI L' (⟨3, 0, x0, 0⟩ : S28) = (L'.length : Int) := if_neg hix
                  rw [e1, e2] at hnext
                  have hneg : decide (idxT L' (⟨3, 0, x0, 0⟩ : S28) < 0) = true := decide_eq_true (by omega)
                  generalize idxT L' (⟨3, 0, x0, 0⟩ : S28) = ix at hneg ⊢
                  clear e1 e2 hix
                  go_wp2_with (first | ((with_reducible refine gate_dst (N := 112) rfl ?_); go_loud (obtain ⟨D4, d4, W4, hrun4, ho4, hg4⟩ := run_app28 (W := wp.alloc (.cells #[.int .i64 3, .int .u64 0, .int .i64 x0, .int .i64 0] 28)) (g := wp.heap.size) (⟨3, 0, x0, 0⟩ : S28) (own_on hSp.rl (below_alloc (Below.refl _ _) _)) (by simp; omega) (by omega) (heap_alloc_new _ _); have hS4 := (hSp.on (below_alloc (Below.refl wp.heap.size wp) (.cells #[.int .i64 3, .int .u64 0, .int .i64 x0, .int .i64 0] 28))).lapp hg4 ho4; refine wp_app rfl (.tmp 109) (.tmp 111) rfl rfl rfl hrun4 ?_; have hcell4 := hS4.cell hls2; have hB4 := (below_alloc hBp (.cells #[.int .i64 3, .int .u64 0, .int .i64 x0, .int .i64 0] 28)).grown hg4 (by simp; omega) (fun k hk => own_base hSp.rl k hk); have hle4 : w.heap.size ≤ W4.heap.size := hB4.size)) | ((with_reducible refine gate_dst (N := 119) rfl ?_); go_loud (obtain ⟨D5, d5, W5, hrun, ho5, hg5, hat5⟩ := run_app3 (W := W4.alloc (.cells #[.int .i64 (L'.length : Int)] 3)) (g := W4.heap.size) (L'.length : Int) (own_on hS4.rp (below_alloc (Below.refl _ _) _)) (by simp; omega) (by have := hpl.out; omega) (heap_alloc_new _ _); have hS5 := hS4.on (below_alloc (Below.refl W4.heap.size W4) (.cells #[.int .i64 (L'.length : Int)] 3)); refine wp_app rfl (.tmp 116) (.tmp 118) rfl rfl rfl hrun ?_; have hbx5 := (hg5.block _ (blk_lt hS5.box) (own_ne hS5.rp hS5.box (by decide))).trans hS5.box)) | ((with_reducible refine gate_store (t := 33) (p := 120) rfl ?_); go_loud (refine wpList_storeField rfl rfl 33 (.tmp 120) (.tmp 119) rfl s (.slice D5 (p'.length + 1) d5) _ rfl rfl rfl (by kernel_rfl) (by simp [Value.oneCell']) hbx5 (pair_size _ _ hls2) rfl ?_; intro W6 hK6 hg6 hs6)))
                  have hO := (hS5.papp hls2 hg5 ho5 (hat5.imp id (fun e => ⟨_, e, Nat.le_refl _⟩)) hK6 hg6)
                  have hB6 := ((below_alloc hB4 (.cells #[.int .i64 (L'.length : Int)] 3)).grown hg5 (by simp; omega) (fun k hk => own_base hS5.rp k hk)).grown hg6 (by have := hg5.size; simp at this; omega) (fun k hk => by injection hk with hk; have := hS5.le; omega)
                  obtain ⟨l2, v2, p2, u2, q2, hO2, hSd2, hl2⟩ := hnext.out W6 _ _ hO
                  clear hO hS5 hg5 ho5 hat5 hK6 hg6 hs6 hbx5
                  go_roundw
                  case rel => exact ⟨s + 1, by omega, by go_num, l2, p2, q2, v2, u2, ⟨D4, d4, by rw [hl2]; rw [List.length_append, List.length_singleton]⟩, hSd2, hO2, hB6⟩
                  case measure => simp [intOf]; omega
              · have hfk' := hfk.out
                have hfw' := hfw.out
                have m1 : (f == 1) = false := beq_eq_false_iff_ne.2 n1
                have m2 : (f == 2) = false := beq_eq_false_iff_ne.2 n2
                have m3 : (f == 3) = false := beq_eq_false_iff_ne.2 n3
                have hTT : mkT f x0 x1 = (⟨f, 0, x0, x1⟩ : S28) := by unfold mkT; simp only [n1, n2, n3, if_false, or_self]
                rw [hTT] at hnext
                go_wp2_with (((with_reducible refine gate_store (t := 28) (p := 14) rfl ?_); go_loud (refine wpList_storeBox rfl rfl 28 (.tmp 14) (.tmp 79) rfl (.agg #[.int .i64 f, .int .u64 0, .int .i64 x0, .int .i64 x1]) [.int .i64 f, .int .u64 0, .int .i64 x0, .int .i64 x1] rfl rfl rfl (by kernel_rfl) (by simp [Value.oneCell']) hK7 rfl ?_; intro w8 hK8 hg8 hs8; have hB8 := hB7.grown hg8 hB7.size (fun k hk => by injection hk; omega); obtain ⟨z0, z1, z2, z3⟩ := box4 hK8)))
                have hBt := hB8
                have hKt := hK8
                obtain ⟨wt, rfl⟩ : ∃ wt, wt = w8 := ⟨_, rfl⟩
                clear z0 z1 z2 z3 hfk' hfw' hTT
                have hSt := hS.below hBt (Nat.le_refl _)
                obtain ⟨hdt, hCt⟩ := ownT_C hSt.rl rfl
                have hpl2 := place_calls D' d' L' (⟨f, 0, x0, x1⟩ : S28) wt hCt hdt (by omega)
                dsimp only at hpl2
                have hBx := below_step hB hBt
                clear hCt
                refine hpl2.mono ?_; rintro e_ wp ⟨rfl, hbp⟩
                have hSp := hSt.on hbp
                have hBp := below_step hBx hbp
                have hKp := (hbp.block _ (blk_lt hKt)).trans hKt
                have hle : w.heap.size ≤ wp.heap.size := hBp.size
                clear hpl2 hKt hSt hBt hBx hbp hB7 hK7 hw7
                obtain ⟨z0, z1, z2, z3⟩ := box4 hKp
                have hcell := hSp.cell hls2
                by_cases hix : 0 ≤ idxT L' (⟨f, 0, x0, x1⟩ : S28)
                · have e1 : putL L' (⟨f, 0, x0, x1⟩ : S28) = L' := if_pos hix
                  have e2 : putI L' (⟨f, 0, x0, x1⟩ : S28) = idxT L' (⟨f, 0, x0, x1⟩ : S28) := if_pos hix
                  rw [e1, e2] at hnext
                  have hneg : decide (idxT L' (⟨f, 0, x0, x1⟩ : S28) < 0) = false := decide_eq_false (by omega)
                  generalize idxT L' (⟨f, 0, x0, x1⟩ : S28) = ix at hnext hneg ⊢
                  clear e1 e2 hix
                  go_wp2_with (first | ((with_reducible refine gate_dst (N := 119) rfl ?_); go_loud (obtain ⟨D5, d5, W5, hrun, ho5, hg5, hat5⟩ := run_app3 (W := wp.alloc (.cells #[.int .i64 ix] 3)) (g := wp.heap.size) ix (own_on hSp.rp (below_alloc (Below.refl _ _) _)) (by simp; omega) (by have := hpl.out; omega) (heap_alloc_new _ _); have hS5 := hSp.on (below_alloc (Below.refl wp.heap.size wp) (.cells #[.int .i64 ix] 3)); refine wp_app rfl (.tmp 116) (.tmp 118) rfl rfl rfl hrun ?_; have hbx5 := (hg5.block _ (blk_lt hS5.box) (own_ne hS5.rp hS5.box (by decide))).trans hS5.box)) | ((with_reducible refine gate_store (t := 33) (p := 120) rfl ?_); go_loud (refine wpList_storeField rfl rfl 33 (.tmp 120) (.tmp 119) rfl s (.slice D5 (p'.length + 1) d5) _ rfl rfl rfl (by kernel_rfl) (by simp [Value.oneCell']) hbx5 (pair_size _ _ hls2) rfl ?_; intro W6 hK6 hg6 hs6)))
                  have hO := (hS5.papp hls2 hg5 ho5 (hat5.imp id (fun e => ⟨_, e, Nat.le_refl _⟩)) hK6 hg6)
                  have hB6 := ((below_alloc hBp (.cells #[.int .i64 ix] 3)).grown hg5 (by simp; omega) (fun k hk => own_base hS5.rp k hk)).grown hg6 (by have := hg5.size; simp at this; omega) (fun k hk => by injection hk with hk; have := hS5.le; omega)
                  obtain ⟨l2, v2, p2, u2, q2, hO2, hSd2, hl2⟩ := hnext.out W6 _ _ hO
                  clear hO hS5 hg5 ho5 hat5 hK6 hg6 hs6 hbx5
                  go_roundw
                  case rel => exact ⟨s + 1, by omega, by go_num, l2, p2, q2, v2, u2, ⟨D', d', by rw [hl2]⟩, hSd2, hO2, hB6⟩
                  case measure => simp [intOf]; omega
                · have e1 : putL L' (⟨f, 0, x0, x1⟩ : S28) = L' ++ [(⟨f, 0, x0, x1⟩ : S28)] := if_neg hix
                  have e2 : putI L' (⟨f, 0, x0, x1⟩ : S28) = (L'.length : Int) := if_neg hix
                  rw [e1, e2] at hnext
                  have hneg : decide (idxT L' (⟨f, 0, x0, x1⟩ : S28) < 0) = true := decide_eq_true (by omega)
                  generalize idxT L' (⟨f, 0, x0, x1⟩ : S28) = ix at hneg ⊢
                  clear e1 e2 hix
                  go_wp2_with (first | ((with_reducible refine gate_dst (N := 112) rfl ?_); go_loud (obtain ⟨D4, d4, W4, hrun4, ho4, hg4⟩ := run_app28 (W := wp.alloc (.cells #[.int .i64 f, .int .u64 0, .int .i64 x0, .int .i64 x1] 28)) (g := wp.heap.size) (⟨f, 0, x0, x1⟩ : S28) (own_on hSp.rl (below_alloc (Below.refl _ _) _)) (by simp; omega) (by omega) (heap_alloc_new _ _); have hS4 := (hSp.on (below_alloc (Below.refl wp.heap.size wp) (.cells #[.int .i64 f, .int .u64 0, .int .i64 x0, .int .i64 x1] 28))).lapp hg4 ho4; refine wp_app rfl (.tmp 109) (.tmp 111) rfl rfl rfl hrun4 ?_; have hcell4 := hS4.cell hls2; have hB4 := (below_alloc hBp (.cells #[.int .i64 f, .int .u64 0, .int .i64 x0, .int .i64 x1] 28)).grown hg4 (by simp; omega) (fun k hk => own_base hSp.rl k hk); have hle4 : w.heap.size ≤ W4.heap.size := hB4.size)) | ((with_reducible refine gate_dst (N := 119) rfl ?_); go_loud (obtain ⟨D5, d5, W5, hrun, ho5, hg5, hat5⟩ := run_app3 (W := W4.alloc (.cells #[.int .i64 (L'.length : Int)] 3)) (g := W4.heap.size) (L'.length : Int) (own_on hS4.rp (below_alloc (Below.refl _ _) _)) (by simp; omega) (by have := hpl.out; omega) (heap_alloc_new _ _); have hS5 := hS4.on (below_alloc (Below.refl W4.heap.size W4) (.cells #[.int .i64 (L'.length : Int)] 3)); refine wp_app rfl (.tmp 116) (.tmp 118) rfl rfl rfl hrun ?_; have hbx5 := (hg5.block _ (blk_lt hS5.box) (own_ne hS5.rp hS5.box (by decide))).trans hS5.box)) | ((with_reducible refine gate_store (t := 33) (p := 120) rfl ?_); go_loud (refine wpList_storeField rfl rfl 33 (.tmp 120) (.tmp 119) rfl s (.slice D5 (p'.length + 1) d5) _ rfl rfl rfl (by kernel_rfl) (by simp [Value.oneCell']) hbx5 (pair_size _ _ hls2) rfl ?_; intro W6 hK6 hg6 hs6)))
                  have hO := (hS5.papp hls2 hg5 ho5 (hat5.imp id (fun e => ⟨_, e, Nat.le_refl _⟩)) hK6 hg6)
                  have hB6 := ((below_alloc hB4 (.cells #[.int .i64 (L'.length : Int)] 3)).grown hg5 (by simp; omega) (fun k hk => own_base hS5.rp k hk)).grown hg6 (by have := hg5.size; simp at this; omega) (fun k hk => by injection hk with hk; have := hS5.le; omega)
                  obtain ⟨l2, v2, p2, u2, q2, hO2, hSd2, hl2⟩ := hnext.out W6 _ _ hO
                  clear hO hS5 hg5 ho5 hat5 hK6 hg6 hs6 hbx5
                  go_roundw
                  case rel => exact ⟨s + 1, by omega, by go_num, l2, p2, q2, v2, u2, ⟨D4, d4, by rw [hl2]; rw [List.length_append, List.length_singleton]⟩, hSd2, hO2, hB6⟩
                  case measure => simp [intOf]; omega
            · obtain rfl : s = 2 := by omega
              obtain ⟨hT2, hS2⟩ := hSd.ends hT (by omega) hf1 hf6 hi0n hi1n hS
              replace hS2 := Aside0.mk hS2
              replace hT2 := Aside0.mk hT2
              replace hB := Aside0.mk hB
              clear hS hSd hT
              go_wp2
              go_roundw
              case rel => exact ⟨n + 1, by omega, by go_num, L', q', p', u', v', ⟨D', d', rfl⟩, hT2.out, hS2.out, hB.out⟩
              case measure => simp [intOf]; omega
        · obtain rfl : n = N := by omega
          clear hlt
          obtain ⟨M, hM⟩ : ∃ M : Nat, min l1.length 5 = M := ⟨_, rfl⟩
          have hM1 : M ≤ l1.length := by omega
          have hM5 : M ≤ 5 := by omega
          have hmm : (if 5 < (l1.length : Int) then 5 else (l1.length : Int)) = (M : Int) := by split <;> omega
          have hmm2 : min (l1.length : Int) 5 = (M : Int) := by omega
          replace hM := Lib.hid hM
          replace hS := Aside0.mk hS
          replace hT := Aside0.mk hT
          replace hB := Aside0.mk hB
          clear hmn hmn2
          go_wp2_with fail
          obtain ⟨wb, rfl⟩ : ∃ wb, wb = wr := ⟨_, rfl⟩
          go_loopw [129, 16, 17] (fun v ka kb wx => ∃ m : Nat, m ≤ M ∧ v = .int .i64 (m : Int) ∧ ∃ (is : List Nat) (xs ys : List Int), is.length = m ∧ (∀ i ∈ is, i < 3 + n) ∧ (is.map fun i => rd p ((i : Nat) : Int)) = xs ∧ (is.map fun i => rd q ((i : Nat) : Int)) = ys ∧ (∃ D d, ka = .slice D xs.length d) ∧ (∃ D d, kb = .slice D ys.length d) ∧ AB wb wx ka xs kb ys) (fun v _ _ _ => M - (intOf v).toNat)
          case atStart => exact ⟨0, by omega, rfl, [], [], [], rfl, by simp, rfl, rfl, ⟨none, 0, rfl⟩, ⟨none, 0, rfl⟩, ⟨rfl, .inl ⟨rfl, rfl⟩⟩, ⟨rfl, .inl ⟨rfl, rfl⟩⟩, .inl rfl, Below.refl _ _⟩
          case round =>
            obtain ⟨m, hmM, rfl, is, xs, ys, hil, hin, hxs, hys, ⟨Da, da, rfl⟩, ⟨Db, db, rfl⟩, hAB0⟩ := hrel
            replace hin := Lib.hid hin
            replace hil := Lib.hid hil
            replace hxs := Lib.hid hxs
            replace hys := Lib.hid hys
            by_cases hlt : (m : Int) < M
            · have hbe := hAB0.be
              have hC1 := Kd.C_below hr1.out (below_step hB.out hbe)
              obtain ⟨ax, rfl, x1⟩ := Kd.at_int hC1 (m : Int) (by omega) (by omega)
              rw [Int.toNat_natCast] at x1
              have hfv : -9223372036854775808 ≤ rd l1 (m : Int) ∧ rd l1 (m : Int) < 9223372036854775808 := by
                have h := g1.out.2 _ (List.getElem_mem (show m < l1.length by omega))
                rw [← rdI_nat l1 m (by omega)] at h
                have e1 : IntKind.i64.min = -9223372036854775808 := rfl
                have e2 : IntKind.i64.max = 9223372036854775807 := rfl
                simp only [Lit.wf, Bool.and_eq_true, decide_eq_true_eq] at h
                omega
              generalize rd l1 (m : Int) = fv at x1 hfv
              have hpl := hT.out.plen
              have hql := hT.out.qlen
              obtain ⟨a, j, hab, hj, hjp⟩ := frame_facts fv hfv.1 hfv.2 p.length (by omega)
              have hjq : j < q.length := by omega
              have hjn : j < 3 + n := by omega
              have hjp' : (j : Int) < p.length := by omega
              have hjq' : (j : Int) < q.length := by omega
              have hpz : ((p.length : Int) = 0) = False := eq_false (by omega)
              have hpn : (p = []) = False := eq_false (fun e => by rw [e] at hjp; exact absurd hjp (by simp))
              have hxl : xs.length ≤ 1000000 := by rw [← hxs.out, List.length_map, hil.out]; omega
              have hyl : ys.length ≤ 1000000 := by rw [← hys.out, List.length_map, hil.out]; omega
              obtain ⟨Dp, dp, rfl, hdp, hCp, -⟩ := ownI_slice hS.out.rp rfl
              obtain ⟨Dq, dq, rfl, hdq, hCq, -⟩ := ownI_slice hS.out.rq rfl
              obtain ⟨c0, c1⟩ := box2 hS.out.box
              obtain ⟨ap, rfl, y0⟩ := Kd.at_int hCp (j : Int) (by omega) (by omega)
              obtain ⟨aq, rfl, y1⟩ := Kd.at_int hCq (j : Int) (by omega) (by omega)
              rw [Int.toNat_natCast] at y0 y1
              generalize hx0 : rd p (j : Int) = x at y0
              generalize hx1 : rd q (j : Int) = y at y1
              have hq0 : Hid (∀ W, Below wb.heap.size wb W → W.cell? ⟨g, 0, none⟩ = some (.slice (some ap) p.length dp)) := Lib.hid (fun W hW => sees_old (fun k hk => hW.block k hk) _ _ c0)
              have hq4 : Hid (∀ W, Below wb.heap.size wb W → W.cell? ⟨g, 0, none⟩ = some (.slice (some ap) p.length dp) ∧ W.cell? (ap.add j) = some (.int .i64 x) ∧ W.cell? ⟨g, 1, none⟩ = some (.slice (some aq) q.length dq) ∧ W.cell? (aq.add j) = some (.int .i64 y)) := Lib.hid (fun W hW => ⟨sees_old (fun k hk => hW.block k hk) _ _ c0, sees_old (fun k hk => hW.block k hk) _ _ y0, sees_old (fun k hk => hW.block k hk) _ _ c1, sees_old (fun k hk => hW.block k hk) _ _ y1⟩)
              obtain ⟨wx, rfl⟩ : ∃ wx, wx = wr := ⟨_, rfl⟩
              replace hx0 := Lib.hid hx0
              replace hx1 := Lib.hid hx1
              replace hpl := Lib.hid hpl
              replace hql := Lib.hid hql
              clear hfv y0 y1 c0 c1 hCp hCq hdp hdq
              go_wp2_with fail
              refine start_ (n := 7) (S := fun w' => w'.cell? ⟨g, 0, none⟩ = some (.slice (some ap) p.length dp)) (ds := []) #[false, false, false, false, false, false, false] (by kernel_rfl) rfl rfl ((hq0.out _ (below_step hbe (Below.refl wx.heap.size wx).drew))) (fun hHeld => ?_)
              refine p_ 0 (some 133) #[true, false, false, false, false, false, false] ?_
              refine p_ 2 (some 135) #[true, false, true, false, false, false, false] ?_
              refine t_ 3 (some 136) #[true, false, true, true, false, false, false] hHeld (hv := by intro w' s0; go_simp; with_reducible rfl) (h := ?_)
              refine p_ 4 (some 137) #[true, false, true, true, true, false, false] ?_
              refine one_ (i := 1) (N := some 134) #[true, true, true, true, true, false, false] rfl rfl (by kernel_rfl) (by decide) (fun K hK => ?_)
              refine goes_ Try.func40 (by kernel_rfl) rfl #[.int .i64 fv] (by rfl) rfl rfl (by simp only [List.map_toArray, List.map_cons, List.map_nil]; rfl) ?_
              with_reducible refine (hab.out _).mono ?_
              rintro e w3 ⟨rfl, hb3⟩
              refine ⟨_, rfl, ?_⟩
              have hbq := below_step (Below.refl wx.heap.size wx).drew hb3
              refine hK.out _ _ ((hq0.out _ (below_step hbe hbq))) (fun hHeld => ?_)
              clear hK K
              refine norm_ (a' := ?_) ?_ ?_
              rotate_left
              · show Act.put _ (some 134) _ = _
                simp only [Act.put, List.setIfInBounds_toArray, List.set_cons_zero, List.set_cons_succ, i64_w, i32_w]
                rfl
              refine p_ 5 (some 138) #[true, true, true, true, true, true, false] ?_
              refine p_ 6 (some 20) #[true, true, true, true, true, true, true] ?_
              refine done_ (by kernel_rfl) ?_
              clear hHeld
              have hAB1 := hAB0.on hbq
              obtain ⟨wx, rfl⟩ : ∃ wx, wx = w3 := ⟨_, rfl⟩
              clear hAB0 hbq hb3 hbe
              go_wp2_with fail
              have hAB := hAB1.drew
              have hAB00 := hAB1.drew
              refine start_ (n := 18) (S := fun w' => w'.cell? ⟨g, 0, none⟩ = some (.slice (some ap) p.length dp) ∧ w'.cell? (ap.add j) = some (.int .i64 x) ∧ w'.cell? ⟨g, 1, none⟩ = some (.slice (some aq) q.length dq) ∧ w'.cell? (aq.add j) = some (.int .i64 y)) (ds := []) bHLawNames23 (by kernel_rfl) rfl rfl ⟨(hq4.out _ hAB.be).1, (hq4.out _ hAB.be).2.1, (hq4.out _ hAB.be).2.2.1, (hq4.out _ hAB.be).2.2.2⟩ (fun hHeld => ?_)
              refine p_ 0 (some 139) bHLawNames24 ?_
              refine p_ 1 (some 140) bHLawNames25 ?_
              refine p_ 3 (some 142) bHLawNames26 ?_
              refine p_ 8 (some 147) bHLawNames27 ?_
              refine p_ 9 (some 148) bHLawNames28 ?_
              refine p_ 11 (some 150) bHLawNames29 ?_
              refine t_ 2 (some 141) bHLawNames30 hHeld (hv := by rintro w' ⟨s0, s1, s2, s3⟩; go_simp; with_reducible rfl) (h := ?_)
              refine p_ 4 (some 143) bHLawNames31 ?_
              refine t_ 5 (some 144) bHLawNames32 hHeld (hv := by rintro w' ⟨s0, s1, s2, s3⟩; go_simp; with_reducible rfl) (h := ?_)
              refine t_ 10 (some 149) bHLawNames33 hHeld (hv := by rintro w' ⟨s0, s1, s2, s3⟩; go_simp; with_reducible rfl) (h := ?_)
              refine p_ 12 (some 151) bHLawNames34 ?_
              refine t_ 13 (some 152) bHLawNames35 hHeld (hv := by rintro w' ⟨s0, s1, s2, s3⟩; go_simp; with_reducible rfl) (h := ?_)
              refine join_ (σ := Option Addr × Nat × Nat × Nat) 3 bHLawNames36 (fun s_ => [(145, .slice (some ⟨s_.2.2.1, 0, none⟩) 1 1), (146, .slice s_.1 (xs.length + 1) s_.2.1), (153, .slice (some ⟨s_.2.2.2, 0, none⟩) 1 1)]) (fun s_ w' => (w'.cell? ⟨g, 0, none⟩ = some (.slice (some ap) p.length dp) ∧ w'.cell? (ap.add j) = some (.int .i64 x) ∧ w'.cell? ⟨g, 1, none⟩ = some (.slice (some aq) q.length dq) ∧ w'.cell? (aq.add j) = some (.int .i64 y)) ∧ AB wb w' (.slice s_.1 (xs.length + 1) s_.2.1) (xs ++ [x]) (.slice Db ys.length db) ys ∧ w'.heap[s_.2.2.2]? = some (.cells #[.int .i64 y] 3 (0, 0))) ?_ ?_
              rotate_left
              · intro hCont
                refine two_ (i := 6) (j := 14) (Ni := some 145) (Nj := some 153) bHLawNames37 bHLawNames38 rfl rfl rfl rfl (by kernel_rfl) (by decide) (by decide) (fun K hK => ?_) (fun K hK => ?_)
                · skip
                  refine value_ (w1 := ?_) (v := ?_) (by rfl) rfl ?_ ?_
                  rotate_left 2
                  · go_simp
                    constructor
                    · rfl
                    · rfl
                  have hlA := heap_alloc_new wx.drew (.cells #[.int .i64 x] 3)
                  have hAB := hAB.alloc (.cells #[.int .i64 x] 3)
                  refine hK.out _ _ ⟨(hq4.out _ hAB.be).1, (hq4.out _ hAB.be).2.1, (hq4.out _ hAB.be).2.2.1, (hq4.out _ hAB.be).2.2.2⟩ (fun hHeld => ?_)
                  clear hK K
                  refine norm_ (a' := ?_) ?_ ?_
                  rotate_left
                  · show Act.put _ (some 145) _ = _
                    simp only [Act.put, List.setIfInBounds_toArray, List.set_cons_zero, List.set_cons_succ, i64_w, i32_w]
                    rfl
                  refine two_ (i := 7) (j := 14) (Ni := some 146) (Nj := some 153) bHLawNames39 bHLawNames40 rfl rfl rfl rfl (by kernel_rfl) (by decide) (by decide) (fun K hK => ?_) (fun K hK => ?_)
                  · skip
                    obtain ⟨D7, d7, W7, hrun, ho7, hg7, hat7⟩ := run_app3 x hAB.ra hAB.base hxl hlA
                    refine clip_step (by rfl) (.tmp 139) (.tmp 145) rfl (by rfl) (by rfl) hrun ?_
                    clear hrun
                    have hAB := AB.appA (ka' := .slice D7 (xs.length + 1) d7) hAB hg7 ho7 hat7
                    refine hK.out _ _ ⟨(hq4.out _ hAB.be).1, (hq4.out _ hAB.be).2.1, (hq4.out _ hAB.be).2.2.1, (hq4.out _ hAB.be).2.2.2⟩ (fun hHeld => ?_)
                    clear hK K
                    refine norm_ (a' := ?_) ?_ ?_
                    rotate_left
                    · show Act.put _ (some 146) _ = _
                      simp only [Act.put, List.setIfInBounds_toArray, List.set_cons_zero, List.set_cons_succ, i64_w, i32_w]
                      rfl
                    refine one_ (i := 14) (N := some 153) bHLawNames36 rfl rfl (by kernel_rfl) (by decide) (fun K hK => ?_)
                    refine value_ (w1 := ?_) (v := ?_) (by rfl) rfl ?_ ?_
                    rotate_left 2
                    · go_simp
                      constructor
                      · rfl
                      · rfl
                    have hlB := heap_alloc_new W7 (.cells #[.int .i64 y] 3)
                    have hAB := hAB.alloc (.cells #[.int .i64 y] 3)
                    refine hK.out _ _ ⟨(hq4.out _ hAB.be).1, (hq4.out _ hAB.be).2.1, (hq4.out _ hAB.be).2.2.1, (hq4.out _ hAB.be).2.2.2⟩ (fun hHeld => ?_)
                    clear hK K
                    refine norm_ (a' := ?_) ?_ ?_
                    rotate_left
                    · show Act.put _ (some 153) _ = _
                      simp only [Act.put, List.setIfInBounds_toArray, List.set_cons_zero, List.set_cons_succ, i64_w, i32_w]
                      rfl
                    exact norm_ (by simp only [putAll, Act.put, List.setIfInBounds_toArray, List.set_cons_zero, List.set_cons_succ]) (hCont (D7, d7, wx.heap.size, W7.heap.size) _ ⟨⟨(hq4.out _ hAB.be).1, (hq4.out _ hAB.be).2.1, (hq4.out _ hAB.be).2.2.1, (hq4.out _ hAB.be).2.2.2⟩, hAB, hlB⟩)
                  · skip
                    refine value_ (w1 := ?_) (v := ?_) (by rfl) rfl ?_ ?_
                    rotate_left 2
                    · go_simp
                      constructor
                      · rfl
                      · rfl
                    have hlAB := two_new wx.drew (.cells #[.int .i64 x] 3) (.cells #[.int .i64 y] 3)
                    obtain ⟨hlA, hlB⟩ := hlAB
                    have hAB := hAB.alloc (.cells #[.int .i64 y] 3)
                    refine hK.out _ _ ⟨(hq4.out _ hAB.be).1, (hq4.out _ hAB.be).2.1, (hq4.out _ hAB.be).2.2.1, (hq4.out _ hAB.be).2.2.2⟩ (fun hHeld => ?_)
                    clear hK K
                    refine norm_ (a' := ?_) ?_ ?_
                    rotate_left
                    · show Act.put _ (some 153) _ = _
                      simp only [Act.put, List.setIfInBounds_toArray, List.set_cons_zero, List.set_cons_succ, i64_w, i32_w]
                      rfl
                    refine one_ (i := 7) (N := some 146) bHLawNames36 rfl rfl (by kernel_rfl) (by decide) (fun K hK => ?_)
                    obtain ⟨D7, d7, W7, hrun, ho7, hg7, hat7⟩ := run_app3 x hAB.ra hAB.base hxl hlA
                    refine clip_step (by rfl) (.tmp 139) (.tmp 145) rfl (by rfl) (by rfl) hrun ?_
                    clear hrun
                    have hlB := (hg7.block _ (blk_lt hlB) (hAB00.away _ (Nat.le_succ _))).trans hlB
                    have hAB := AB.appA (ka' := .slice D7 (xs.length + 1) d7) hAB hg7 ho7 hat7
                    refine hK.out _ _ ⟨(hq4.out _ hAB.be).1, (hq4.out _ hAB.be).2.1, (hq4.out _ hAB.be).2.2.1, (hq4.out _ hAB.be).2.2.2⟩ (fun hHeld => ?_)
                    clear hK K
                    refine norm_ (a' := ?_) ?_ ?_
                    rotate_left
                    · show Act.put _ (some 146) _ = _
                      simp only [Act.put, List.setIfInBounds_toArray, List.set_cons_zero, List.set_cons_succ, i64_w, i32_w]
                      rfl
                    exact norm_ (by simp only [putAll, Act.put, List.setIfInBounds_toArray, List.set_cons_zero, List.set_cons_succ]) (hCont (D7, d7, wx.heap.size, wx.heap.size + 1) _ ⟨⟨(hq4.out _ hAB.be).1, (hq4.out _ hAB.be).2.1, (hq4.out _ hAB.be).2.2.1, (hq4.out _ hAB.be).2.2.2⟩, hAB, hlB⟩)
                · skip
                  refine value_ (w1 := ?_) (v := ?_) (by rfl) rfl ?_ ?_
                  rotate_left 2
                  · go_simp
                    constructor
                    · rfl
                    · rfl
                  have hlB := heap_alloc_new wx.drew (.cells #[.int .i64 y] 3)
                  have hAB := hAB.alloc (.cells #[.int .i64 y] 3)
                  refine hK.out _ _ ⟨(hq4.out _ hAB.be).1, (hq4.out _ hAB.be).2.1, (hq4.out _ hAB.be).2.2.1, (hq4.out _ hAB.be).2.2.2⟩ (fun hHeld => ?_)
                  clear hK K
                  refine norm_ (a' := ?_) ?_ ?_
                  rotate_left
                  · show Act.put _ (some 153) _ = _
                    simp only [Act.put, List.setIfInBounds_toArray, List.set_cons_zero, List.set_cons_succ, i64_w, i32_w]
                    rfl
                  refine one_ (i := 6) (N := some 145) bHLawNames40 rfl rfl (by kernel_rfl) (by decide) (fun K hK => ?_)
                  refine value_ (w1 := ?_) (v := ?_) (by rfl) rfl ?_ ?_
                  rotate_left 2
                  · go_simp
                    constructor
                    · rfl
                    · rfl
                  have hlAB := two_new wx.drew (.cells #[.int .i64 y] 3) (.cells #[.int .i64 x] 3)
                  obtain ⟨hlB, hlA⟩ := hlAB
                  have hAB := hAB.alloc (.cells #[.int .i64 x] 3)
                  refine hK.out _ _ ⟨(hq4.out _ hAB.be).1, (hq4.out _ hAB.be).2.1, (hq4.out _ hAB.be).2.2.1, (hq4.out _ hAB.be).2.2.2⟩ (fun hHeld => ?_)
                  clear hK K
                  refine norm_ (a' := ?_) ?_ ?_
                  rotate_left
                  · show Act.put _ (some 145) _ = _
                    simp only [Act.put, List.setIfInBounds_toArray, List.set_cons_zero, List.set_cons_succ, i64_w, i32_w]
                    rfl
                  refine one_ (i := 7) (N := some 146) bHLawNames36 rfl rfl (by kernel_rfl) (by decide) (fun K hK => ?_)
                  obtain ⟨D7, d7, W7, hrun, ho7, hg7, hat7⟩ := run_app3 x hAB.ra hAB.base hxl hlA
                  refine clip_step (by rfl) (.tmp 139) (.tmp 145) rfl (by rfl) (by rfl) hrun ?_
                  clear hrun
                  have hlB := (hg7.block _ (blk_lt hlB) (hAB00.away _ (Nat.le_refl _))).trans hlB
                  have hAB := AB.appA (ka' := .slice D7 (xs.length + 1) d7) hAB hg7 ho7 hat7
                  refine hK.out _ _ ⟨(hq4.out _ hAB.be).1, (hq4.out _ hAB.be).2.1, (hq4.out _ hAB.be).2.2.1, (hq4.out _ hAB.be).2.2.2⟩ (fun hHeld => ?_)
                  clear hK K
                  refine norm_ (a' := ?_) ?_ ?_
                  rotate_left
                  · show Act.put _ (some 146) _ = _
                    simp only [Act.put, List.setIfInBounds_toArray, List.set_cons_zero, List.set_cons_succ, i64_w, i32_w]
                    rfl
                  exact norm_ (by simp only [putAll, Act.put, List.setIfInBounds_toArray, List.set_cons_zero, List.set_cons_succ]) (hCont (D7, d7, wx.heap.size + 1, wx.heap.size) _ ⟨⟨(hq4.out _ hAB.be).1, (hq4.out _ hAB.be).2.1, (hq4.out _ hAB.be).2.2.1, (hq4.out _ hAB.be).2.2.2⟩, hAB, hlB⟩)
              rintro ⟨D7, d7, gA, gB⟩ w8 ⟨hs8, hAB8, hlB8⟩
              have hHeld : w8.cell? ⟨g, 0, none⟩ = some (.slice (some ap) p.length dp) ∧ w8.cell? (ap.add j) = some (.int .i64 x) ∧ w8.cell? ⟨g, 1, none⟩ = some (.slice (some aq) q.length dq) ∧ w8.cell? (aq.add j) = some (.int .i64 y) := hs8
              refine norm_ (a' := ?_) ?_ ?_
              rotate_left
              · simp only [putAll, Act.put, List.setIfInBounds_toArray, List.set_cons_zero, List.set_cons_succ]
                rfl
              refine one_ (i := 15) (N := some 154) bHLawNames41 rfl rfl (by kernel_rfl) (by decide) (fun K hK => ?_)
              obtain ⟨D9, d9, W9, hrun9, ho9, hg9, hat9⟩ := run_app3 y hAB8.rb hAB8.base hyl hlB8
              refine clip_step (by rfl) (.tmp 147) (.tmp 153) rfl (by rfl) (by rfl) hrun9 ?_
              have hAB9 := AB.appB (kb' := .slice D9 (ys.length + 1) d9) hAB8 hg9 ho9 hat9
              refine hK.out _ _ ⟨(hq4.out _ hAB9.be).1, (hq4.out _ hAB9.be).2.1, (hq4.out _ hAB9.be).2.2.1, (hq4.out _ hAB9.be).2.2.2⟩ (fun hHeld => ?_)
              clear hK K
              refine norm_ (a' := ?_) ?_ ?_
              rotate_left
              · show Act.put _ (some 154) _ = _
                simp only [Act.put, List.setIfInBounds_toArray, List.set_cons_zero, List.set_cons_succ, i64_w, i32_w]
                rfl
              refine p_ 16 (some 16) bHLawNames42 ?_
              refine p_ 17 (some 17) bHLawNames43 ?_
              refine done_ (by kernel_rfl) ?_
              clear hHeld
              go_wp2_with fail
              have hinn : ∀ i ∈ is ++ [j], i < 3 + n := by
                intro i hi
                rcases List.mem_append.1 hi with h | h
                · exact hin.out i h
                · rw [List.mem_singleton.1 h]; exact hjn
              go_roundw
              case rel => exact ⟨m + 1, by omega, by go_num, is ++ [j], xs ++ [x], ys ++ [y], by rw [List.length_append, List.length_singleton, hil.out], hinn, by rw [List.map_append, hxs.out, List.map_singleton, hx0.out], by rw [List.map_append, hys.out, List.map_singleton, hx1.out], ⟨D7, d7, by rw [List.length_append, List.length_singleton]⟩, ⟨D9, d9, by rw [List.length_append, List.length_singleton]⟩, hAB9⟩
              case measure => simp [intOf]; omega
            · obtain rfl : m = M := by omega
              have hS2 := hS.out.below hAB0.be (Nat.le_refl _)
              obtain ⟨hdL, hCL⟩ := ownT_C hS2.rl rfl
              obtain ⟨hdA, hCA⟩ := ownI_C hAB0.ra rfl
              obtain ⟨hdB, hCB⟩ := ownI_C hAB0.rb rfl
              have hll := hT.out.len
              have hends := hT.out.ends (by omega) is hin.out (by rw [hil.out]; omega)
              rw [hxs.out, hys.out, hil.out] at hends
              have hst := static_calls _ _ L _ _ xs _ _ ys wr hCL hdL (by omega) hT.out.wf hCA hdA (by rw [← hxs.out, List.length_map, hil.out]; omega) hCB hdB (by rw [← hys.out, List.length_map, hil.out]; omega)
              rw [hends] at hst
              have hBx := below_step hB.out hAB0.be
              have hxm : xs.length = m := by rw [← hxs.out, List.length_map, hil.out]
              clear hCL hCA hCB hdL hdA hdB hS2 hAB0 hll hends
              replace hBx := Aside0.mk hBx
              by_cases h0 : m = 0
              · rw [if_pos h0] at hst
                have hx0 : xs.length = 0 := by omega
                rw [hx0] at hst
                clear hmm hmm2
                replace h0 := Lib.hid h0
                replace hxm := Lib.hid hxm
                go_wp2_with fail
                refine hst.mono ?_; rintro e_ w1 ⟨rfl, hb1⟩
                go_wp2_with fail
                refine (alive22_calls _).mono ?_; rintro e_ w2 ⟨rfl, hb2⟩
                go_wp2_with fail
                go_ret
                exact ⟨rfl, below_step (below_step hBx.out hb1) hb2⟩
              · rw [if_neg h0] at hst
                have hxm0 : ((xs.length : Int) == 0) = false := beq_eq_false_iff_ne.2 (by omega)
                replace h0 := Lib.hid h0
                replace hxm := Lib.hid hxm
                clear hmm hmm2
                go_wp2_with fail
                refine hst.mono ?_; rintro e_ w1 ⟨rfl, hb1⟩
                go_wp2_with fail
                refine (alive22_calls _).mono ?_; rintro e_ w2 ⟨rfl, hb2⟩
                go_wp2_with fail
                go_ret
                exact ⟨rfl, below_step (below_step hBx.out hb1) hb2⟩
end Go.Proofs.Ytenmmeehgnkcpaa.Q
