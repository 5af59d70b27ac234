/- RelayWaits: mails come in the order in which they were pushed, and wait till they are acknowledged, or too old; what may be stays so.
   Conditions: the acts are read as such. -/
import Derived.Test.YtbmfcikjhnnnbaaHStep
import Derived.Test.YtbmfcikjhnnnbaaHPureW
import Derived.Test.YtbmfcikjhnnnbaaHTypes
import Derived.Test.YtbmfcikjhnnnbaaQx122
import Derived.Deep.LoopGhost
namespace Go.Proofs.Ytbmfcikjhnnnbaa.Q
open Go.RowKit Go.Proofs.YtbmfcikjhnnnbaaW.PrintWords Go.Proofs.YtbmfcikjhnnnbaaW.PrintLast Go.Proofs.YtbmfcikjhnnnbaaW.PrintMore
set_option linter.unusedVariables false
set_option linter.unusedSimpArgs false
abbrev bHLawWaits0 : Array Bool := #[false, false, false, false, false, false, false, false, false, false, false, false]
abbrev bHLawWaits1 : Array Bool := #[true, false, false, false, false, false, false, false, false, false, false, false]
abbrev bHLawWaits2 : Array Bool := #[true, false, false, true, false, false, false, false, false, false, false, false]
abbrev bHLawWaits3 : Array Bool := #[true, false, false, true, false, true, false, false, false, false, false, false]
abbrev bHLawWaits4 : Array Bool := #[true, true, false, true, false, true, false, false, false, false, false, false]
abbrev bHLawWaits5 : Array Bool := #[true, true, true, true, false, true, false, false, false, false, false, false]
abbrev bHLawWaits6 : Array Bool := #[true, true, true, true, false, true, false, false, false, false, true, false]
abbrev bHLawWaits7 : Array Bool := #[true, true, true, true, true, true, false, false, false, false, true, false]
abbrev bHLawWaits8 : Array Bool := #[true, true, true, true, true, true, true, false, false, false, true, false]
abbrev bHLawWaits9 : Array Bool := #[true, true, true, true, true, true, true, true, false, false, true, false]
abbrev bHLawWaits10 : Array Bool := #[true, true, true, true, true, true, true, true, true, false, true, false]
abbrev bHLawWaits11 : Array Bool := #[true, true, true, true, true, true, true, true, true, true, true, false]
abbrev bHLawWaits12 : Array Bool := #[true, true, true, true, true, true, true, true, true, true, true, true]
abbrev bHLawWaits13 : Array Bool := #[false, false, false, false, false, false, false, false, false, false, false, false, false, false, false, false]
abbrev bHLawWaits14 : Array Bool := #[true, false, false, false, false, false, false, false, false, false, false, false, false, false, false, false]
abbrev bHLawWaits15 : Array Bool := #[true, true, false, false, false, false, false, false, false, false, false, false, false, false, false, false]
abbrev bHLawWaits16 : Array Bool := #[true, true, false, true, false, false, false, false, false, false, false, false, false, false, false, false]
abbrev bHLawWaits17 : Array Bool := #[true, true, false, true, true, false, false, false, false, false, false, false, false, false, false, false]
abbrev bHLawWaits18 : Array Bool := #[true, true, false, true, true, false, true, false, false, false, false, false, false, false, false, false]
abbrev bHLawWaits19 : Array Bool := #[true, true, false, true, true, false, true, true, false, false, false, false, false, false, false, false]
abbrev bHLawWaits20 : Array Bool := #[true, true, false, true, true, false, true, true, true, false, false, false, false, false, false, false]
abbrev bHLawWaits21 : Array Bool := #[true, true, false, true, true, false, true, true, true, true, false, false, false, false, false, false]
abbrev bHLawWaits22 : Array Bool := #[true, true, true, true, true, false, true, true, true, true, false, false, false, false, false, false]
abbrev bHLawWaits23 : Array Bool := #[true, true, true, true, true, true, true, true, true, true, false, false, false, false, false, false]
abbrev bHLawWaits24 : Array Bool := #[true, true, true, true, true, true, true, true, true, true, true, false, false, false, false, false]
abbrev bHLawWaits25 : Array Bool := #[true, true, true, true, true, true, true, true, true, true, true, true, false, false, false, false]
abbrev bHLawWaits26 : Array Bool := #[true, true, true, true, true, true, true, true, true, true, true, true, true, false, false, false]
abbrev bHLawWaits27 : Array Bool := #[true, true, true, true, true, true, true, true, true, true, true, true, true, true, false, false]
abbrev bHLawWaits28 : Array Bool := #[true, true, true, true, true, true, true, true, true, true, true, true, true, true, true, false]
abbrev bHLawWaits29 : Array Bool := #[true, true, true, true, true, true, true, true, true, true, true, true, true, true, true, true]
abbrev bHLawWaits30 : Array Bool := #[false, false, false, false, false, false, false, false, false, false, false, false, false]
abbrev bHLawWaits31 : Array Bool := #[false, true, false, false, false, false, false, false, false, false, false, false, false]
abbrev bHLawWaits32 : Array Bool := #[false, true, true, false, false, false, false, false, false, false, false, false, false]
abbrev bHLawWaits33 : Array Bool := #[false, true, true, true, false, false, false, false, false, false, false, false, false]
abbrev bHLawWaits34 : Array Bool := #[false, true, true, true, true, false, false, false, false, false, false, false, false]
abbrev bHLawWaits35 : Array Bool := #[true, true, true, true, true, false, false, false, false, false, false, false, false]
abbrev bHLawWaits36 : Array Bool := #[true, true, true, true, true, true, false, false, false, false, false, false, false]
abbrev bHLawWaits37 : Array Bool := #[true, true, true, true, true, true, true, true, true, true, true, false, false]
abbrev bHLawWaits38 : Array Bool := #[true, true, true, true, true, true, true, false, false, false, false, false, false]
abbrev bHLawWaits39 : Array Bool := #[true, true, true, true, true, true, false, false, false, false, true, false, false]
abbrev bHLawWaits40 : Array Bool := #[true, true, true, true, true, true, true, true, false, false, false, false, false]
abbrev bHLawWaits41 : Array Bool := #[true, true, true, true, true, true, true, true, true, false, false, false, false]
abbrev bHLawWaits42 : Array Bool := #[true, true, true, true, true, true, true, true, true, true, false, false, false]
abbrev bHLawWaits43 : Array Bool := #[true, true, true, true, true, true, true, false, false, false, true, false, false]
abbrev bHLawWaits44 : Array Bool := #[true, true, true, true, true, true, true, true, false, false, true, false, false]
abbrev bHLawWaits45 : Array Bool := #[true, true, true, true, true, true, true, true, true, false, true, false, false]
abbrev bHLawWaits46 : Array Bool := #[true, true, true, true, true, true, true, true, true, true, true, true, false]
abbrev bHLawWaits47 : Array Bool := #[true, true, true, true, true, true, true, true, true, true, true, true, true]

attribute [local go_sem] max2_int min2_int max_two min_two
set_option maxHeartbeats 40000000 in
set_option maxRecDepth 100000 in
theorem waits_walk (A0 : Option Addr) (c0 : Nat) (l0 : List S52) (w : World) (hr0 : k52.C w A0 l0.length l0) (hc0 : l0.length ≤ c0) (g0 : good49 l0) :
    Calls Try.prog 7 #[.slice A0 l0.length c0] w fun e w' => e = .returned (.bool true) ∧ Below w.heap.size w w' := by
  have hSt := Aside0.mk (St.start w)
  obtain ⟨N, hN⟩ : ∃ N : Nat, min l0.length 40 = N := ⟨_, rfl⟩
  have hN1 : N ≤ l0.length := by omega
  have hN8 : N ≤ 40 := by omega
  have hmn : (if 40 < (l0.length : Int) then 40 else (l0.length : Int)) = (N : Int) := by split <;> omega
  have hmn2 : min (l0.length : Int) 40 = (N : Int) := by omega
  have hmm := @run_makeMap Try.prog
  replace hN := Lib.hid hN
  replace hr0 := Aside0.mk hr0
  replace g0 := Lib.hid g0
  go_enter Try.func7, Try.ntmps7
  go_wp2_with fail
  go_loopw [32, 5, 6] (fun v nw nx wr => ∃ i : Nat, i ≤ N ∧ v = .int .i64 (i : Int) ∧ ∃ A c l now next vs ws, nw = .int .u64 now ∧ nx = .int .u64 next ∧ St w (w.heap.size + 1) w.heap.size i wr A c l now next vs ws) (fun v _ _ _ => N - (intOf v).toNat)
  case atStart => exact ⟨0, by omega, rfl, none, 0, [], 0, 0, _, _, rfl, rfl, hSt.out⟩
  case round =>
    clear hSt
    obtain ⟨i, hiN, rfl, A, c, l, now, next, vs, ws, rfl, rfl, hSt⟩ := hrel
    by_cases hlt : (i : Int) < N
    · have hbw := hSt.below
      have hC0 := Kd.C_below hr0.out hbw
      obtain ⟨ax, rfl, q0, q1, q2⟩ := at_T52 hC0 (i : Int) (by omega) (by omega)
      rw [Int.toNat_natCast] at q0 q1 q2
      have hgx := g0.out.2 (rd_T52 l0 (i : Int)) (by unfold rd_T52; rw [Int.toNat_natCast]; rw [List.getD_eq_getElem?_getD, List.getElem?_eq_getElem (by omega)]; exact List.getElem_mem (show i < l0.length by omega))
      obtain ⟨x0, hx0⟩ : ∃ x, (rd_T52 l0 (i : Int)).f0 = x := ⟨_, rfl⟩
      obtain ⟨x1, hx1⟩ : ∃ x, (rd_T52 l0 (i : Int)).f1 = x := ⟨_, rfl⟩
      obtain ⟨x2, hx2⟩ : ∃ x, (rd_T52 l0 (i : Int)).f2 = x := ⟨_, rfl⟩
      unfold good52 at hgx
      rw [hx0, hx1, hx2] at hgx
      rw [hx0] at q0
      rw [hx1] at q1
      rw [hx2] at q2
      obtain ⟨w1, hw1⟩ : ∃ w1, wr.alloc (.cells #[.int .i64 0, .int .u64 0, .string ⟨#[]⟩] 52) = w1 := ⟨_, rfl⟩
      have hb1 : Below wr.heap.size wr w1 := by rw [← hw1]; exact below_alloc (Below.refl _ _) _
      have hK1 : w1.heap[wr.heap.size]? = some (.cells #[.int .i64 0, .int .u64 0, .string ⟨#[]⟩] 52 (0, 0)) := by rw [← hw1]; exact heap_alloc_new _ _
      replace hSt := Aside0.mk hSt
      clear hx0 hx1 hx2 hbw hC0
      go_wp2_with ((with_reducible refine gate_store (t := 52) (p := 8) rfl ?_); go_loud (refine wpList_storeBox rfl rfl 52 (.tmp 8) (.tmp 35) rfl (.agg #[.int .i64 x0, .int .u64 x1, .string x2]) [.int .i64 x0, .int .u64 x1, .string x2] rfl rfl rfl (by kernel_rfl) (by simp [Value.oneCell']) hK1 rfl ?_); intro w2 hK2 hg2 hs2)
      obtain ⟨wx, rfl⟩ : ∃ wx, wx = w2 := ⟨_, rfl⟩
      have hBx : Below wr.heap.size wr wx := hb1.grown hg2 hb1.size (fun k hk => by injection hk with hk; omega)
      have hSx := Aside0.mk (hSt.out.on hBx)
      obtain ⟨j, hju, hj4⟩ : ∃ u : Nat, Int.tmod x1 4 = (u : Int) ∧ u < 4 := by
        have h := hgx.2.1
        have e1 : IntKind.u64.min = 0 := rfl
        have e2 : IntKind.u64.max = 18446744073709551615 := rfl
        simp only [Lit.wf, Bool.and_eq_true, decide_eq_true_eq] at h
        have h0 : 0 ≤ x1 := by omega
        rw [Int.tmod_eq_emod_of_nonneg h0]
        exact ⟨(x1 % 4).toNat, by omega, by omega⟩
      have hzx : (x2.size : Int) ≤ 9223372036854775807 := by
        have h := hgx.2.2
        have e3 : reachBytes ≤ 9223372036854775807 := by decide
        omega
      obtain ⟨M, hM⟩ : ∃ M : Nat, min x2.size 50 = M := ⟨_, rfl⟩
      have hmx : (if 50 < (x2.size : Int) then 50 else (x2.size : Int)) = (M : Int) := by split <;> omega
      have hmx2 : min (x2.size : Int) 50 = (M : Int) := by omega
      obtain ⟨s, hs⟩ : ∃ s, x2.extract 0 M = s := ⟨_, rfl⟩
      have hss : s.size = M := by rw [← hs, ByteArray.size_extract]; omega
      have hs50 : s.size ≤ 50 := by omega
      have hMx : M ≤ x2.size := by omega
      have hsl : ∀ W, (Instr.slice 9 (.string x2) none (some (.int .i64 (M : Int))) none).run Try.prog W = .ok (.string s) W := fun W => by
        have h1 : (M : Int) ≤ x2.size := by omega
        simp [Instr.slice, Instr.sliceBounds, Instr.sliceBound, asIntOf, run_underlying Try.underlying9, h1, hMx, hs]
      obtain ⟨y0, y1, y2⟩ := box3 hK2
      have hq7 : Hid (∀ W, Below wx.heap.size wx W → W.cell? ⟨wr.heap.size, 0, none⟩ = some (.int .i64 x0) ∧ W.cell? ⟨wr.heap.size, 1, none⟩ = some (.int .u64 x1) ∧ W.cell? ⟨wr.heap.size, 2, none⟩ = some (.string x2)) := Lib.hid fun W hW => box3 ((hW.block _ (blk_lt hK2)).trans hK2)
      replace hgx := Lib.hid hgx
      replace hM := Lib.hid hM
      replace hs := Lib.hid hs
      replace hss := Lib.hid hss
      replace hBx := Aside0.mk hBx
      clear hSt hb1 hK1 hg2 hs2 hw1 q0 q1 q2 hK2 hmn hmn2
      refine start_ (n := 12) (S := fun w' => w'.cell? ⟨wr.heap.size, 1, none⟩ = some (.int .u64 x1) ∧ w'.cell? ⟨wr.heap.size, 2, none⟩ = some (.string x2)) (ds := []) bHLawWaits0 (by kernel_rfl) rfl rfl ⟨(hq7.out _ (Below.refl wx.heap.size wx).drew).2.1, (hq7.out _ (Below.refl wx.heap.size wx).drew).2.2⟩ (fun hHeld => ?_)
      refine p_ 0 (some 36) bHLawWaits1 ?_
      refine p_ 3 (some 39) bHLawWaits2 ?_
      refine p_ 5 (some 41) bHLawWaits3 ?_
      refine t_ 1 (some 37) bHLawWaits4 hHeld (hv := by rintro w' ⟨s0, s1⟩; go_simp; with_reducible rfl) (h := ?_)
      refine p_ 2 (some 38) bHLawWaits5 ?_
      refine p_ 10 (some 9) bHLawWaits6 ?_
      refine t_ 4 (some 40) bHLawWaits7 hHeld (hv := by rintro w' ⟨s0, s1⟩; go_simp; with_reducible rfl) (h := ?_)
      refine t_ 6 (some 42) bHLawWaits8 hHeld (hv := by rintro w' ⟨s0, s1⟩; go_simp; with_reducible rfl) (h := ?_)
      refine p_ 7 (some 43) bHLawWaits9 ?_
      refine p_ 8 (some 44) bHLawWaits10 ?_
      refine p_ 9 (some 45) bHLawWaits11 ?_
      refine p_ 11 (some 10) bHLawWaits12 ?_
      refine done_ (by kernel_rfl) ?_
      obtain ⟨y0, y1, y2⟩ := hq7.out _ (Below.refl wx.heap.size wx).drew
      have hSx := Aside0.mk (hSx.out.on (Below.refl wx.heap.size wx).drew)
      have hBx := Aside0.mk (hBx.out.drew)
      obtain ⟨r0, r1, r2⟩ := box3 hSx.out.box
      clear hHeld hju hsl hmx hmx2
      have hRl := hSx.out.rel
      have hln := hRl.len
      have hbd := hRl.bnd
      obtain ⟨Aj, cj, hvj⟩ := (hSx.out.row hj4).slice
      obtain ⟨wj, hwj⟩ : ∃ wj, ws j = wj := ⟨_, rfl⟩
      have hj16 := (hRl.ok hj4).len
      rw [hwj] at hvj hj16
      have hwhy := hRl.why (by omega) hj4 hs50
      rw [hwj] at hwhy
      have hwfl := hRl.wf
      replace hwj := Lib.hid hwj
      replace hvj := Lib.hid hvj
      replace hwhy := Lib.hid hwhy
      replace hRl := Aside0.mk hRl
      replace hwfl := Lib.hid hwfl
      cases k0 : (bits BinOp.and IntKind.i64 x0 3 == 0) with
      | true =>
        as_aux_lemma =>
          have hpc := push_callsS (Own (w.heap.size + 1) w.heap.size vs) A c l now next (j : Int) s wx.drew hSx.out.own_lt hSx.out.C hSx.out.cap (by omega) hwfl.out (by omega) (by omega)
          go_wp2_with fail
          refine hpc.mono ?_; rintro e_ wp ⟨hP, hbp⟩
          clear hpc r0 r1 r2 y0 y1 y2
          have hSp := Aside0.mk (hSx.out.on hbp)
          obtain ⟨w3, hw3⟩ : ∃ w3, wp.alloc (.cells #[.slice none 0 0, .int .u64 0, .int .u64 0] 25) = w3 := ⟨_, rfl⟩
          have hb3 : Below wp.heap.size wp w3 := by rw [← hw3]; exact below_alloc (Below.refl _ _) _
          have hK3 : w3.heap[wp.heap.size]? = some (.cells #[.slice none 0 0, .int .u64 0, .int .u64 0] 25 (0, 0)) := by rw [← hw3]; exact heap_alloc_new _ _
          rcases push_why hP with ⟨q, rfl, hq0, hwq⟩ | ⟨A', c', rfl, hc', hC', hw0⟩
          · have hqq : q = 7 ∨ q = 6 := by
              have h := hwhy.out
              rw [hwq] at h
              split at h
              · exact .inl h
              · split at h
                · exact .inr h
                · exact absurd h hq0
            replace hqq := Lib.hid hqq
            replace hwq := Lib.hid hwq
            clear hP hq0
            go_wp2_with ((with_reducible refine gate_store (t := 25) (p := 11) rfl ?_); go_loud (refine wpList_storeBox rfl rfl 25 (.tmp 11) (.tmp 98) rfl zerR [.slice none 0 0, .int .u64 0, .int .u64 0] rfl rfl rfl (by kernel_rfl) (by simp [Value.oneCell']) hK3 rfl ?_); intro w4 hK4 hg4 hs4; have hB4 : Below wp.heap.size wp w4 := hb3.grown hg4 hb3.size (fun k hk => by injection hk with hk; omega); have hS4 := Aside0.mk (hSp.out.on hB4); have hlk := hS4.out.lookup hj4; rw [hvj.out] at hlk)
            have hrow := hS4.out.row hj4
            rw [hvj.out, hwj.out] at hrow
            obtain ⟨-, hcj, hCj⟩ := hrow.C
            replace hCj := Aside0.mk hCj
            clear hlk hrow
            go_loopw [104, 13] (fun v o wy => ∃ k : Nat, k ≤ wj.length ∧ v = .int .i64 (k : Int) ∧ o = .bool (hasI wj s k) ∧ Below w4.heap.size w4 wy) (fun v _ _ => wj.length - (intOf v).toNat)
            case atStart => exact ⟨0, by omega, rfl, rfl, Below.refl _ _⟩
            case round =>
              obtain ⟨k, hk, rfl, rfl, hB5⟩ := hrel
              by_cases hkl : (k : Int) < wj.length
              · have hC5 := Kd.C_below hCj.out hB5
                obtain ⟨aj, haj, t0, t1, t2⟩ := at_T54 hC5 (k : Int) (by omega) (by omega)
                rw [Int.toNat_natCast] at t0 t1 t2
                obtain ⟨mk, hmk⟩ : ∃ m, rd_T54 wj (k : Int) = m := ⟨_, rfl⟩
                rw [hmk] at t0 t1 t2
                obtain ⟨w5, hw5⟩ : ∃ w5, wr.alloc (.cells #[.int .u64 0, .string ⟨#[]⟩, .int .u64 0] 54) = w5 := ⟨_, rfl⟩
                have hb5 : Below wr.heap.size wr w5 := by rw [← hw5]; exact below_alloc (Below.refl _ _) _
                have hK5 : w5.heap[wr.heap.size]? = some (.cells #[.int .u64 0, .string ⟨#[]⟩, .int .u64 0] 54 (0, 0)) := by rw [← hw5]; exact heap_alloc_new _ _
                have hsuc := hasI_succ wj s k
                rw [hmk] at hsuc
                cases hh : hasI wj s k with
                | true =>
                  rw [hh] at hsuc
                  replace hsuc := Lib.hid hsuc
                  subst haj
                  go_wp2_with ((with_reducible refine gate_store (t := 54) (p := 15) rfl ?_); go_loud (refine wpList_storeBox rfl rfl 54 (.tmp 15) (.tmp 107) rfl (.agg #[.int .u64 mk.f0, .string mk.f1, .int .u64 mk.f2]) [.int .u64 mk.f0, .string mk.f1, .int .u64 mk.f2] rfl rfl rfl (by kernel_rfl) (by simp [Value.oneCell']) hK5 rfl ?_); intro w6 hK6 hg6 hs6; obtain ⟨v0, v1, v2⟩ := box3 hK6)
                  have hB6 : Below w4.heap.size w4 w6 := below_step hB5 (hb5.grown hg6 hb5.size (fun k hk => by injection hk with hk; omega))
                  go_roundw
                  case rel => exact ⟨k + 1, by omega, by go_num, by rw [hsuc.out]; rfl, hB6⟩
                  case measure => simp [intOf]; omega
                | false =>
                  rw [hh, Bool.false_or] at hsuc
                  subst haj
                  cases he : (mk.f1.toList == s.toList) with
                  | true =>
                    rw [he] at hsuc
                    replace hsuc := Lib.hid hsuc
                    go_wp2_with ((with_reducible refine gate_store (t := 54) (p := 15) rfl ?_); go_loud (refine wpList_storeBox rfl rfl 54 (.tmp 15) (.tmp 107) rfl (.agg #[.int .u64 mk.f0, .string mk.f1, .int .u64 mk.f2]) [.int .u64 mk.f0, .string mk.f1, .int .u64 mk.f2] rfl rfl rfl (by kernel_rfl) (by simp [Value.oneCell']) hK5 rfl ?_); intro w6 hK6 hg6 hs6; obtain ⟨v0, v1, v2⟩ := box3 hK6)
                    have hB6 : Below w4.heap.size w4 w6 := below_step hB5 (hb5.grown hg6 hb5.size (fun k hk => by injection hk with hk; omega))
                    go_roundw
                    case rel => exact ⟨k + 1, by omega, by go_num, by rw [hsuc.out], hB6⟩
                    case measure => simp [intOf]; omega
                  | false =>
                    rw [he] at hsuc
                    replace hsuc := Lib.hid hsuc
                    go_wp2_with ((with_reducible refine gate_store (t := 54) (p := 15) rfl ?_); go_loud (refine wpList_storeBox rfl rfl 54 (.tmp 15) (.tmp 107) rfl (.agg #[.int .u64 mk.f0, .string mk.f1, .int .u64 mk.f2]) [.int .u64 mk.f0, .string mk.f1, .int .u64 mk.f2] rfl rfl rfl (by kernel_rfl) (by simp [Value.oneCell']) hK5 rfl ?_); intro w6 hK6 hg6 hs6; obtain ⟨v0, v1, v2⟩ := box3 hK6)
                    have hB6 : Below w4.heap.size w4 w6 := below_step hB5 (hb5.grown hg6 hb5.size (fun k hk => by injection hk with hk; omega))
                    go_roundw
                    case rel => exact ⟨k + 1, by omega, by go_num, by rw [hsuc.out], hB6⟩
                    case measure => simp [intOf]; omega
              · obtain rfl : k = wj.length := by omega
                have hhb : hasI wj s wj.length = hasB wj s := rfl
                have hS5 := Aside0.mk (hS4.out.on hB5)
                obtain ⟨r0, r1, r2⟩ := box3 hS5.out.box
                have hlk := hS5.out.lookup hj4
                rw [hvj.out] at hlk
                have hrc := Aside0.mk (right_calls A c l now next wr (sees_B57 bs_sees hS5.out.C) hwfl.out (by omega))
                rw [hRl.out.rel] at hrc
                clear hB5 hCj
                have hw6 := hwhy.out
                rw [hwq.out] at hw6
                cases hh : hasB wj s with
                | true =>
                  rw [hh, if_pos rfl] at hw6
                  subst hw6
                  rw [hh] at hhb
                  rw [hhb]
                  clear hkl hhb
                  go_wp2_with fail
                  refine hrc.out.mono ?_; rintro e_ wz ⟨rfl, hbz⟩
                  have hSz := (hS5.out.on hbz).more
                  go_wp2_with fail
                  go_roundw
                  case rel => exact ⟨i + 1, by omega, by go_num, A, c, l, now, next, vs, ws, rfl, rfl, hSz⟩
                  case measure => simp [intOf]; omega
                | false =>
                  rw [hh, if_neg (by simp)] at hw6
                  have h16 : wj.length = 16 := by
                    by_cases h : wj.length = 16
                    · exact h
                    · rw [if_neg h] at hw6
                      rcases hqq.out with h | h <;> omega
                  rw [if_pos h16] at hw6
                  subst hw6
                  rw [hh] at hhb
                  rw [hhb]
                  have h16i : ((wj.length : Int) == 16) = true := beq_iff_eq.2 (by omega)
                  replace h16 := Lib.hid h16
                  clear hkl hhb
                  go_wp2_with fail
                  refine hrc.out.mono ?_; rintro e_ wz ⟨rfl, hbz⟩
                  have hSz := (hS5.out.on hbz).more
                  go_wp2_with fail
                  go_roundw
                  case rel => exact ⟨i + 1, by omega, by go_num, A, c, l, now, next, vs, ws, rfl, rfl, hSz⟩
                  case measure => simp [intOf]; omega
          · obtain ⟨lp, hlp⟩ : ∃ lp, pushL l now next (j : Int) s = lp := ⟨_, rfl⟩
            have hRp := hRl.out.push hj4 hs50 hw0
            rw [hlp] at hRp hc' hC'
            rw [hlp]
            replace hRp := Aside0.mk hRp
            replace hC' := Aside0.mk hC'
            replace hw0 := Lib.hid hw0
            clear hP
            go_wp2_with ((with_reducible refine gate_store (t := 25) (p := 11) rfl ?_); go_loud (refine wpList_storeBox rfl rfl 25 (.tmp 11) (.tmp 98) rfl (.agg #[.slice A' lp.length c', .int .u64 now, .int .u64 (next + 1)]) [.slice A' lp.length c', .int .u64 now, .int .u64 (next + 1)] rfl rfl rfl (by kernel_rfl) (by simp [Value.oneCell']) hK3 rfl ?_); intro w4 hK4 hg4 hs4; have hB4 : Below wp.heap.size wp w4 := hb3.grown hg4 hb3.size (fun k hk => by injection hk with hk; omega); have hS4 := Aside0.mk (hSp.out.on hB4); have hlk := hS4.out.lookup hj4; rw [hvj.out] at hlk)
            have hrow := hS4.out.row hj4
            rw [hvj.out, hwj.out] at hrow
            obtain ⟨-, hcj, hCj⟩ := hrow.C
            replace hCj := Aside0.mk hCj
            clear hlk hrow
            go_loopw [104, 13] (fun v o wy => ∃ k : Nat, k ≤ wj.length ∧ v = .int .i64 (k : Int) ∧ o = .bool (hasI wj s k) ∧ Below w4.heap.size w4 wy) (fun v _ _ => wj.length - (intOf v).toNat)
            case atStart => exact ⟨0, by omega, rfl, rfl, Below.refl _ _⟩
            case round =>
              obtain ⟨k, hk, rfl, rfl, hB5⟩ := hrel
              by_cases hkl : (k : Int) < wj.length
              · have hC5 := Kd.C_below hCj.out hB5
                obtain ⟨aj, haj, t0, t1, t2⟩ := at_T54 hC5 (k : Int) (by omega) (by omega)
                rw [Int.toNat_natCast] at t0 t1 t2
                obtain ⟨mk, hmk⟩ : ∃ m, rd_T54 wj (k : Int) = m := ⟨_, rfl⟩
                rw [hmk] at t0 t1 t2
                obtain ⟨w5, hw5⟩ : ∃ w5, wr.alloc (.cells #[.int .u64 0, .string ⟨#[]⟩, .int .u64 0] 54) = w5 := ⟨_, rfl⟩
                have hb5 : Below wr.heap.size wr w5 := by rw [← hw5]; exact below_alloc (Below.refl _ _) _
                have hK5 : w5.heap[wr.heap.size]? = some (.cells #[.int .u64 0, .string ⟨#[]⟩, .int .u64 0] 54 (0, 0)) := by rw [← hw5]; exact heap_alloc_new _ _
                have hsuc := hasI_succ wj s k
                rw [hmk] at hsuc
                cases hh : hasI wj s k with
                | true =>
                  rw [hh] at hsuc
                  replace hsuc := Lib.hid hsuc
                  subst haj
                  go_wp2_with ((with_reducible refine gate_store (t := 54) (p := 15) rfl ?_); go_loud (refine wpList_storeBox rfl rfl 54 (.tmp 15) (.tmp 107) rfl (.agg #[.int .u64 mk.f0, .string mk.f1, .int .u64 mk.f2]) [.int .u64 mk.f0, .string mk.f1, .int .u64 mk.f2] rfl rfl rfl (by kernel_rfl) (by simp [Value.oneCell']) hK5 rfl ?_); intro w6 hK6 hg6 hs6; obtain ⟨v0, v1, v2⟩ := box3 hK6)
                  have hB6 : Below w4.heap.size w4 w6 := below_step hB5 (hb5.grown hg6 hb5.size (fun k hk => by injection hk with hk; omega))
                  go_roundw
                  case rel => exact ⟨k + 1, by omega, by go_num, by rw [hsuc.out]; rfl, hB6⟩
                  case measure => simp [intOf]; omega
                | false =>
                  rw [hh, Bool.false_or] at hsuc
                  subst haj
                  cases he : (mk.f1.toList == s.toList) with
                  | true =>
                    rw [he] at hsuc
                    replace hsuc := Lib.hid hsuc
                    go_wp2_with ((with_reducible refine gate_store (t := 54) (p := 15) rfl ?_); go_loud (refine wpList_storeBox rfl rfl 54 (.tmp 15) (.tmp 107) rfl (.agg #[.int .u64 mk.f0, .string mk.f1, .int .u64 mk.f2]) [.int .u64 mk.f0, .string mk.f1, .int .u64 mk.f2] rfl rfl rfl (by kernel_rfl) (by simp [Value.oneCell']) hK5 rfl ?_); intro w6 hK6 hg6 hs6; obtain ⟨v0, v1, v2⟩ := box3 hK6)
                    have hB6 : Below w4.heap.size w4 w6 := below_step hB5 (hb5.grown hg6 hb5.size (fun k hk => by injection hk with hk; omega))
                    go_roundw
                    case rel => exact ⟨k + 1, by omega, by go_num, by rw [hsuc.out], hB6⟩
                    case measure => simp [intOf]; omega
                  | false =>
                    rw [he] at hsuc
                    replace hsuc := Lib.hid hsuc
                    go_wp2_with ((with_reducible refine gate_store (t := 54) (p := 15) rfl ?_); go_loud (refine wpList_storeBox rfl rfl 54 (.tmp 15) (.tmp 107) rfl (.agg #[.int .u64 mk.f0, .string mk.f1, .int .u64 mk.f2]) [.int .u64 mk.f0, .string mk.f1, .int .u64 mk.f2] rfl rfl rfl (by kernel_rfl) (by simp [Value.oneCell']) hK5 rfl ?_); intro w6 hK6 hg6 hs6; obtain ⟨v0, v1, v2⟩ := box3 hK6)
                    have hB6 : Below w4.heap.size w4 w6 := below_step hB5 (hb5.grown hg6 hb5.size (fun k hk => by injection hk with hk; omega))
                    go_roundw
                    case rel => exact ⟨k + 1, by omega, by go_num, by rw [hsuc.out], hB6⟩
                    case measure => simp [intOf]; omega
              · obtain rfl : k = wj.length := by omega
                have hhb : hasI wj s wj.length = hasB wj s := rfl
                obtain ⟨wl, rfl⟩ : ∃ wl, wl = wr := ⟨_, rfl⟩
                have hS5 := Aside0.mk (hS4.out.on hB5)
                have hlk := hS5.out.lookup hj4
                rw [hvj.out] at hlk
                have hlkD := (hS5.out.on (Below.refl wl.heap.size wl).drew).lookup hj4
                rw [hvj.out] at hlkD
                have hKb5 := (hB5.block _ (blk_lt hK4)).trans hK4
                obtain ⟨z0, z1, z2⟩ := box3 (g := wp.heap.size) (W := wl.drew) hKb5
                obtain ⟨n, hn, hHl⟩ := hS5.out.hold
                replace hHl := Aside0.mk hHl
                have hKl := hS5.out.box
                have hB7s : w.heap.size + 1 ≤ wl.heap.size := by have := hHl.out.gm_lt; omega
                have hn9 : n < maxLen := by simp only [maxLen]; omega
                have hBl := Aside0.mk (Below.trans hB4 (hB5.mono hB4.size))
                have hw6 := hwhy.out
                rw [hw0.out] at hw6
                clear hCj hB5
                cases hh : hasB wj s with
                | true =>
                  rw [hh, if_pos rfl] at hw6
                  cases hw6
                | false =>
                  rw [hh, if_neg (by simp)] at hw6
                  have h16 : wj.length ≠ 16 := fun h => by rw [if_pos h] at hw6; cases hw6
                  rw [hh] at hhb
                  rw [hhb]
                  have h16i : ((wj.length : Int) == 16) = false := beq_eq_false_iff_ne.2 (by omega)
                  replace h16 := Lib.hid h16
                  replace hn9 := Lib.hid hn9
                  clear hkl hhb hw6
                  go_wp2_with fail
                  refine start_ (n := 16) (S := fun w' => w'.cell? ⟨wp.heap.size, 0, none⟩ = some (.slice A' lp.length c') ∧ w'.cell? ⟨wp.heap.size, 1, none⟩ = some (.int .u64 now) ∧ w'.cell? ⟨wp.heap.size, 2, none⟩ = some (.int .u64 (next + 1)) ∧ (Instr.lookup 50 (.map (some (w.heap.size + 1))) (.int .u64 (j : Int)) false).run Try.prog w' = .ok (.slice Aj wj.length cj) w') (ds := [12, 13, 15]) bHLawWaits13 (by kernel_rfl) rfl rfl ⟨z0, z1, z2, hlkD⟩ (fun hHeld => ?_)
                  refine p_ 0 (some 151) bHLawWaits14 ?_
                  refine p_ 1 (some 152) bHLawWaits15 ?_
                  refine p_ 3 (some 154) bHLawWaits16 ?_
                  refine p_ 4 (some 155) bHLawWaits17 ?_
                  refine p_ 6 (some 157) bHLawWaits18 ?_
                  refine p_ 7 (some 158) bHLawWaits19 ?_
                  refine p_ 8 (some 159) bHLawWaits20 ?_
                  refine p_ 9 (some 160) bHLawWaits21 ?_
                  refine t_ 2 (some 153) bHLawWaits22 hHeld (hv := by rintro w' ⟨s0, s1, s2, s3⟩; go_simp; with_reducible rfl) (h := ?_)
                  refine t_ 5 (some 156) bHLawWaits23 hHeld (hv := by rintro w' ⟨s0, s1, s2, s3⟩; go_simp; with_reducible rfl) (h := ?_)
                  refine one_ (i := 10) (N := some 161) bHLawWaits24 rfl rfl (by kernel_rfl) (by decide) (fun K hK => ?_)
                  refine value_ (w1 := ?_) (v := ?_) (by rfl) rfl ?_ ?_
                  rotate_left 2
                  · go_simp
                    constructor
                    · rfl
                    · rfl
                  have hgb := heap_alloc_new wl.drew (.cells #[.int .u64 next, .string s, .int .u64 now] 54)
                  have hB7 := below_alloc (Below.refl wl.heap.size wl).drew (.cells #[.int .u64 next, .string s, .int .u64 now] 54)
                  have hH7 := hHl.out.on hB7
                  have hK7 := (hB7.block _ (blk_lt hKl)).trans hKl
                  obtain ⟨A7, c7, W7, hrun, hH8, hg8, hat8⟩ := hH7.append hj4 (m := { f0 := next, f1 := s, f2 := now }) (by rw [hwj.out]; omega) (Nat.le_trans hB7s hB7.size) hgb
                  rw [hvj.out, hwj.out] at hrun
                  rw [hwj.out] at hH8 hat8
                  have hK8 := (hg8.block _ (blk_lt hK7) (hH7.ne_box hK7 (by decide) hj4)).trans hK7
                  have hKb7 := (hB7.block _ (blk_lt hKb5)).trans hKb5
                  have hKb8 := (hg8.block _ (blk_lt hKb7) (hH7.ne_box hKb7 (by decide) hj4)).trans hKb7
                  have hlk7 := hH7.lookup hj4
                  rw [hvj.out] at hlk7
                  refine hK.out _ _ ⟨(box3 hKb7).1, (box3 hKb7).2.1, (box3 hKb7).2.2, hlk7⟩ (fun hHeld => ?_)
                  clear hK K
                  refine norm_ (a' := ?_) ?_ ?_
                  rotate_left
                  · show Act.put _ (some 161) _ = _
                    simp only [Act.put, List.setIfInBounds_toArray, List.set_cons_zero, List.set_cons_succ, i64_w, i32_w]
                    rfl
                  refine one_ (i := 11) (N := some 162) bHLawWaits25 rfl rfl (by kernel_rfl) (by decide) (fun K hK => ?_)
                  refine clip_step (by rfl) (.tmp 156) (.tmp 161) rfl (by rfl) (by rfl) hrun ?_
                  clear hrun
                  have hlk8 := hH8.lookup hj4
                  rw [hvj.out] at hlk8
                  refine hK.out _ _ ⟨(box3 hKb8).1, (box3 hKb8).2.1, (box3 hKb8).2.2, hlk8⟩ (fun hHeld => ?_)
                  clear hK K
                  refine norm_ (a' := ?_) ?_ ?_
                  rotate_left
                  · show Act.put _ (some 162) _ = _
                    simp only [Act.put, List.setIfInBounds_toArray, List.set_cons_zero, List.set_cons_succ, i64_w, i32_w]
                    rfl
                  refine last_ (i := 12) (N := none) bHLawWaits26 rfl rfl (by kernel_rfl) (by decide) (fun K hK => ?_)
                  refine skip_storeBox (by rfl) rfl 25 (.tmp 3) (.tmp 153) rfl (.agg #[.slice A' lp.length c', .int .u64 now, .int .u64 (next + 1)]) [.slice A' lp.length c', .int .u64 now, .int .u64 (next + 1)] rfl rfl rfl (by kernel_rfl) (by simp [Value.oneCell']) hK8 rfl ?_
                  intro w9 hK9 hg9 hs9
                  have hH9 := hH8.box hK8 (by decide) hg9
                  obtain ⟨-, v0, st, w10, hme, w11, hes, hH11, hg11⟩ := hH9.stored hj4 hn9.out
                  rw [upd_same] at hes hH11
                  refine hK.out _ _ ?_
                  clear hK K
                  refine last_ (i := 13) (N := some 163) bHLawWaits27 rfl rfl (by kernel_rfl) (by decide) (fun K hK => ?_)
                  refine value_ (w1 := ?_) (v := ?_) (by rfl) rfl ?_ ?_
                  rotate_left 2
                  · go_simp
                    constructor
                    · rfl
                    · rfl
                  refine hK.out _ _ ?_
                  clear hK K
                  refine norm_ (a' := ?_) ?_ ?_
                  rotate_left
                  · show Act.put _ (some 163) _ = _
                    simp only [Act.put, List.setIfInBounds_toArray, List.set_cons_zero, List.set_cons_succ, i64_w, i32_w]
                    rfl
                  refine p_ 14 (some 164) bHLawWaits28 ?_
                  refine last_ (i := 15) (N := none) bHLawWaits29 rfl rfl (by kernel_rfl) (by decide) (fun K hK => ?_)
                  refine skip_ (w1 := ?_) (by rfl) rfl ?_ ?_
                  rotate_left
                  · go_simp
                    rfl
                  refine hK.out _ _ ?_
                  clear hK K
                  refine done_ (by kernel_rfl) ?_
                  have hkp : Keeps (Own (w.heap.size + 1) w.heap.size vs) wp w11 := (((((Keeps.refl (W := wp)).on hBl.out).on hB7).grown hg8 (fun k hk => .inl (.inr (.inr ⟨j, hj4, hk.symm ▸ rfl⟩)))).grown hg9 (fun k hk => by injection hk with hk; exact .inl (.inr (.inl hk.symm)))).grown hg11 (fun k hk => by injection hk with hk; exact .inl (.inl hk.symm))
                  have hBw7 := below_step (below_step hSp.out.below hBl.out) hB7
                  have hBw8 := hBw7.grown hg8 hBw7.size (fun k hk => by have := hH7.own_base hj4 k hk; omega)
                  have hBw9 := hBw8.grown hg9 hBw8.size (fun k hk => by injection hk with hk; omega)
                  have hBw11 := hBw9.grown hg11 hBw9.size (fun k hk => by injection hk with hk; omega)
                  have hRp2 := hRp.out
                  rw [hwj.out] at hRp2
                  have hSf := Aside0.mk (St.turn hSp.out hj4 hkp hBw11 ((hg11.block _ (blk_lt hK9) (by simp)).trans hK9) hc' hC'.out hH11 (by omega) (by
                    rcases hat8 with e | e
                    · exact .inl e
                    · exact .inr (.inr ⟨_, e, Nat.le_trans hBl.out.size hB7.size⟩)) hRp2)
                  clear hkp hBw7 hBw8 hBw9 hBw11 hRp2 hH11 hg11 hK9 hg9 hs9 hH9 hH8 hg8 hat8 hK8 hKb8 hlk8 hH7 hK7 hKb7 hlk7 hB7 hgb hme hes hHeld z0 z1 z2 hlkD hlk
                  obtain ⟨r0, r1, r2⟩ := box3 hSf.out.box
                  have hnw : (next + 1) % 18446744073709551616 = next + 1 := by omega
                  have hrc := Aside0.mk (right_calls A' c' lp now (next + 1) w11 (sees_B57 bs_sees hSf.out.C) hSf.out.rel.wf (by omega))
                  rw [hSf.out.rel.rel] at hrc
                  go_wp2_with fail
                  refine hrc.out.mono ?_; rintro e_ wz ⟨rfl, hbz⟩
                  have hSz := hSf.out.on hbz
                  go_wp2_with fail
                  go_roundw
                  case rel => exact ⟨i + 1, by omega, by go_num, A', c', lp, now, next + 1, _, _, rfl, rfl, hSz⟩
                  case measure => simp [intOf]; omega
      | false =>
        cases k1 : (bits BinOp.and IntKind.i64 x0 3 == 1) with
        | true =>
          as_aux_lemma =>
            have hpl := pull_calls A c l now next (j : Int) wx.drew (sees_B57 bs_sees hSx.out.C) hSx.out.cap (by omega) hwfl.out (by omega)
            have hml : mailsL l (j : Int) = wj := (hRl.out.mails j hj4).trans hwj.out
            go_wp2_with fail
            refine hpl.mono ?_; rintro e_ wp ⟨hP, hbp⟩
            clear hpl r0 r1 r2 y0 y1 y2
            have hSp := Aside0.mk (hSx.out.on hbp)
            have hlk := hSp.out.lookup hj4
            rw [hvj.out] at hlk
            have hPm := pull_mails hP
            rw [hml, hRl.out.rel] at hPm
            clear hP
            rcases hPm with ⟨h, _⟩ | ⟨_, hm, rfl⟩ | ⟨_, hm, Ap, cp, rfl, hcp, hCp⟩
            · cases h
            · have hj0 : wj.length = 0 := by rw [hm]; rfl
              rw [hj0] at hlk
              have hSz := hSp.out.more
              replace hm := Lib.hid hm
              replace hj0 := Lib.hid hj0
              replace hml := Lib.hid hml
              go_wp2_with fail
              go_roundw
              case rel => exact ⟨i + 1, by omega, by go_num, A, c, l, now, next, vs, ws, rfl, rfl, hSz⟩
              case measure => simp [intOf]; omega
            · obtain ⟨m, r, hwr⟩ : ∃ m r, wj = m :: r := by
                cases hwj' : wj with
                | nil => rw [hwj'] at hm; exact absurd hm (by simp)
                | cons m r => exact ⟨m, r, rfl⟩
              obtain ⟨K, hK⟩ : ∃ K : Nat, min wj.length 5 = K := ⟨_, rfl⟩
              have hKl : (wj.take 5).length = K := by rw [List.length_take, ← hK]; omega
              have hK1 : 1 ≤ K := by omega
              have hK0 : 0 < K := by omega
              have hK0i : (0 : Int) < (K : Int) := by omega
              have hKw : K ≤ wj.length := by omega
              have hmk : (if 5 < (wj.length : Int) then 5 else (wj.length : Int)) = (K : Int) := by split <;> omega
              have hmk2 : min (wj.length : Int) 5 = (K : Int) := by omega
              have hj0 : ((wj.length : Int) == 0) = false := beq_eq_false_iff_ne.2 (by omega)
              have hrow := hSp.out.row hj4
              rw [hvj.out, hwj.out] at hrow
              obtain ⟨-, hcj, hCj⟩ := hrow.C
              have hKc : K ≤ cj := by omega
              have htk : wj.take K = wj.take 5 := by
                rw [← hK]
                rcases Nat.le_total wj.length 5 with h | h
                · rw [Nat.min_eq_left h, List.take_length, List.take_of_length_le h]
                · rw [Nat.min_eq_right h]
              have hCk := Kd.C_take hCj hKw
              rw [htk, hKl] at hCk
              rw [hKl] at hcp hCp
              rw [hKl]
              have hms := demurralref16_MailsSame.calls 500 Ap cp (wj.take 5) Aj cj (wj.take 5) _ wp (by rw [hKl]; exact hCp) (by rw [hKl]; exact hcp) (by rw [hKl]; exact hCk) (by rw [hKl]; exact hKc) (mailsame_f _ _ (by omega) 500 (by omega))
              rw [mailsB_refl, hKl] at hms
              replace hms := Aside0.mk hms
              obtain ⟨ap, rfl, q0, q1, q2⟩ := at_T54 hCp 0 (by omega) (by omega)
              have hm0 : rd_T54 (wj.take 5) 0 = m := by rw [hwr]; rfl
              rw [hm0, Int.toNat_zero, Nat.zero_mul] at q0
              obtain ⟨hany, hRa⟩ := hRl.out.ack hj4 (hwj.out.trans hwr)
              obtain ⟨lp, hlp⟩ : ∃ lp, withoutL (ackB (j : Int) m.f0) l = lp := ⟨_, rfl⟩
              rw [hlp] at hRa
              have hack : Hid (∀ W, Below wp.heap.size wp W → ∀ S : Nat → Prop, (∀ k, S k → k < W.heap.size) → Calls Try.prog 20 #[rv A l.length c now next, .int .u64 (j : Int), .int .u64 m.f0] W fun e w' => ∃ A' c', e = .returned (.tuple #[rv A' lp.length c' now next, .int .i64 0]) ∧ lp.length ≤ c' ∧ k57.C (bs S w') A' lp.length lp ∧ Below W.heap.size W w') := Lib.hid fun W hW S hS => by
                have hSW := hSp.out.on hW
                refine (ack_callsS S A c l now next (j : Int) m.f0 W hS (sees_B57 bs_sees hSW.C) hSW.cap (by omega) hwfl.out (by omega)).mono fun e w' ⟨hE, hb⟩ => ?_
                rcases hE with ⟨h, _⟩ | ⟨_, h, _⟩ | ⟨_, _, lp', A', c', e1, rfl, e2, e3⟩
                · rw [hRl.out.rel] at h; cases h
                · rw [hany] at h; cases h
                · rw [hlp] at e1
                  subst e1
                  exact ⟨A', c', rfl, e2, e3, hb⟩
              replace hm := Lib.hid hm
              replace hwr := Lib.hid hwr
              replace hK := Lib.hid hK
              replace hml := Lib.hid hml
              replace hKl := Lib.hid hKl
              replace hRa := Aside0.mk hRa
              replace hlp := Lib.hid hlp
              clear hrow hCj hCk htk hm0 hany hCp q1 q2
              go_wp2_with fail
              refine hms.out.mono ?_; rintro e_ wl ⟨rfl, hbl'⟩
              have hbl := hbl'.below
              have hSl := Aside0.mk (hSp.out.on hbl)
              have hq : Hid (∀ W, Below wl.heap.size wl W → W.cell? ⟨w.heap.size, 0, none⟩ = some (.slice A l.length c) ∧ W.cell? ⟨w.heap.size, 1, none⟩ = some (.int .u64 now) ∧ W.cell? ⟨w.heap.size, 2, none⟩ = some (.int .u64 next) ∧ W.cell? ap = some (.int .u64 m.f0)) := Lib.hid fun W hW => by
                obtain ⟨a, b, c⟩ := box3 (hSl.out.on hW).box
                refine ⟨a, b, c, ?_⟩
                have h := sees_below hW _ _ (sees_below hbl _ _ q0)
                rwa [add0] at h
              clear hms hbl' q0
              go_wp2_with fail
              refine start_ (n := 13) (S := fun w' => w'.cell? ⟨w.heap.size, 0, none⟩ = some (.slice A l.length c) ∧ w'.cell? ⟨w.heap.size, 1, none⟩ = some (.int .u64 now) ∧ w'.cell? ⟨w.heap.size, 2, none⟩ = some (.int .u64 next) ∧ w'.cell? ap = some (.int .u64 m.f0)) (ds := [11]) bHLawWaits30 (by kernel_rfl) rfl rfl ⟨(hq.out _ (Below.refl wl.heap.size wl).drew).1, (hq.out _ (Below.refl wl.heap.size wl).drew).2.1, (hq.out _ (Below.refl wl.heap.size wl).drew).2.2.1, (hq.out _ (Below.refl wl.heap.size wl).drew).2.2.2⟩ (fun hHeld => ?_)
              refine p_ 1 (some 197) bHLawWaits31 ?_
              refine p_ 2 (some 198) bHLawWaits32 ?_
              refine p_ 3 (some 199) bHLawWaits33 ?_
              refine p_ 4 (some 200) bHLawWaits34 ?_
              refine t_ 0 (some 196) bHLawWaits35 hHeld (hv := by rintro w' ⟨s0, s1, s2, s3⟩; go_simp; with_reducible rfl) (h := ?_)
              refine t_ 5 (some 201) bHLawWaits36 hHeld (hv := by rintro w' ⟨s0, s1, s2, s3⟩; go_simp; with_reducible rfl) (h := ?_)
              refine join_ (σ := Option Addr × Nat × Nat) 2 bHLawWaits37 (fun s_ => [(202, .tuple #[.agg #[.slice s_.1 lp.length s_.2.1, .int .u64 now, .int .u64 next], .int .i64 0]), (195, .tuple #[.agg #[.slice s_.1 lp.length s_.2.1, .int .u64 now, .int .u64 next], .int .i64 0]), (203, .agg #[.slice s_.1 lp.length s_.2.1, .int .u64 now, .int .u64 next]), (204, .int .i64 0), (20, .pointer (some ⟨s_.2.2, 0, none⟩))]) (fun s_ w' => (w'.cell? ⟨w.heap.size, 0, none⟩ = some (.slice A l.length c) ∧ w'.cell? ⟨w.heap.size, 1, none⟩ = some (.int .u64 now) ∧ w'.cell? ⟨w.heap.size, 2, none⟩ = some (.int .u64 next) ∧ w'.cell? ap = some (.int .u64 m.f0)) ∧ lp.length ≤ s_.2.1 ∧ k57.C (bs (fun k => Own (w.heap.size + 1) w.heap.size vs k ∨ k = s_.2.2) w') s_.1 lp.length lp ∧ w'.heap[s_.2.2]? = some (.cells #[.slice none 0 0, .int .u64 0, .int .u64 0] 25 (0, 0)) ∧ wl.heap.size ≤ s_.2.2 ∧ Below wl.heap.size wl w') ?_ ?_
              rotate_left
              · intro hCont
                refine two_ (i := 6) (j := 10) (Ni := some 202) (Nj := some 20) bHLawWaits38 bHLawWaits39 rfl rfl rfl rfl (by kernel_rfl) (by decide) (by decide) (fun K hK => ?_) (fun K hK => ?_)
                · skip
                  have hbc := (Below.refl wl.heap.size wl).drew
                  refine goes_ Try.func20 (by kernel_rfl) rfl #[.agg #[.slice A l.length c, .int .u64 now, .int .u64 next], .int .u64 (j : Int), .int .u64 m.f0] (by rfl) rfl rfl (by simp only [List.map_toArray, List.map_cons, List.map_nil]; rfl) ?_
                  with_reducible refine (hack.out _ (Below.trans hbl (hbc.mono hbl.size)) (Own (w.heap.size + 1) w.heap.size vs) (fun k hk => Nat.lt_of_lt_of_le (hSl.out.own_lt k hk) hbc.size)).mono ?_
                  rintro e_ w6 ⟨A', c', rfl, hc', hC', hb6⟩
                  refine ⟨_, rfl, ?_⟩
                  have hbc := below_step hbc hb6
                  refine hK.out _ _ ⟨(hq.out _ hbc).1, (hq.out _ hbc).2.1, (hq.out _ hbc).2.2.1, (hq.out _ hbc).2.2.2⟩ (fun hHeld => ?_)
                  clear hK K
                  refine norm_ (a' := ?_) ?_ ?_
                  rotate_left
                  · show Act.put _ (some 202) _ = _
                    simp only [Act.put, List.setIfInBounds_toArray, List.set_cons_zero, List.set_cons_succ, i64_w, i32_w]
                    rfl
                  refine p_ 7 (some 195) bHLawWaits40 ?_
                  refine p_ 8 (some 203) bHLawWaits41 ?_
                  refine p_ 9 (some 204) bHLawWaits42 ?_
                  refine one_ (i := 10) (N := some 20) bHLawWaits37 rfl rfl (by kernel_rfl) (by decide) (fun K hK => ?_)
                  refine value_ (w1 := ?_) (v := ?_) (by rfl) rfl ?_ ?_
                  rotate_left 2
                  · go_simp
                    constructor
                    · rfl
                    · rfl
                  have hal := heap_alloc_new w6 (.cells #[.slice none 0 0, .int .u64 0, .int .u64 0] 25)
                  have hC' := sees_B57 ((Keeps.refl (S := (Own (w.heap.size + 1) w.heap.size vs)) (W := w6)).on (below_alloc (Below.refl _ _) (.cells #[.slice none 0 0, .int .u64 0, .int .u64 0] 25)) |>.sees (S' := fun k => Own (w.heap.size + 1) w.heap.size vs k ∨ k = w6.heap.size) (fun k hk => hk.elim .inl (fun h => .inr (Nat.le_of_eq h.symm)))) hC'
                  have hge := hbc.size
                  have hbc := below_alloc hbc (.cells #[.slice none 0 0, .int .u64 0, .int .u64 0] 25)
                  refine hK.out _ _ ⟨(hq.out _ hbc).1, (hq.out _ hbc).2.1, (hq.out _ hbc).2.2.1, (hq.out _ hbc).2.2.2⟩ (fun hHeld => ?_)
                  clear hK K
                  refine norm_ (a' := ?_) ?_ ?_
                  rotate_left
                  · show Act.put _ (some 20) _ = _
                    simp only [Act.put, List.setIfInBounds_toArray, List.set_cons_zero, List.set_cons_succ, i64_w, i32_w]
                    rfl
                  exact norm_ (by simp only [putAll, Act.put, List.setIfInBounds_toArray, List.set_cons_zero, List.set_cons_succ]) (hCont (A', c', w6.heap.size) _ ⟨⟨(hq.out _ hbc).1, (hq.out _ hbc).2.1, (hq.out _ hbc).2.2.1, (hq.out _ hbc).2.2.2⟩, hc', hC', hal, hge, hbc⟩)
                · skip
                  have hbc := (Below.refl wl.heap.size wl).drew
                  refine value_ (w1 := ?_) (v := ?_) (by rfl) rfl ?_ ?_
                  rotate_left 2
                  · go_simp
                    constructor
                    · rfl
                    · rfl
                  have hal := heap_alloc_new wl.drew (.cells #[.slice none 0 0, .int .u64 0, .int .u64 0] 25)
                  have hge := Nat.le_refl wl.heap.size
                  have hbc := below_alloc hbc (.cells #[.slice none 0 0, .int .u64 0, .int .u64 0] 25)
                  refine hK.out _ _ ⟨(hq.out _ hbc).1, (hq.out _ hbc).2.1, (hq.out _ hbc).2.2.1, (hq.out _ hbc).2.2.2⟩ (fun hHeld => ?_)
                  clear hK K
                  refine norm_ (a' := ?_) ?_ ?_
                  rotate_left
                  · show Act.put _ (some 20) _ = _
                    simp only [Act.put, List.setIfInBounds_toArray, List.set_cons_zero, List.set_cons_succ, i64_w, i32_w]
                    rfl
                  refine one_ (i := 6) (N := some 202) bHLawWaits43 rfl rfl (by kernel_rfl) (by decide) (fun K hK => ?_)
                  have hbc := (below_alloc (Below.refl wl.heap.size wl) (.cells #[.slice none 0 0, .int .u64 0, .int .u64 0] 25)).drew
                  have hlz : wl.heap.size < (wl.alloc (.cells #[.slice none 0 0, .int .u64 0, .int .u64 0] 25)).drew.heap.size := blk_lt (heap_alloc_new wl (.cells #[.slice none 0 0, .int .u64 0, .int .u64 0] 25))
                  refine goes_ Try.func20 (by kernel_rfl) rfl #[.agg #[.slice A l.length c, .int .u64 now, .int .u64 next], .int .u64 (j : Int), .int .u64 m.f0] (by rfl) rfl rfl (by simp only [List.map_toArray, List.map_cons, List.map_nil]; rfl) ?_
                  with_reducible refine (hack.out _ (Below.trans hbl (hbc.mono hbl.size)) (fun k => Own (w.heap.size + 1) w.heap.size vs k ∨ k = wl.heap.size) (fun k hk => hk.elim (fun h => Nat.lt_of_lt_of_le (hSl.out.own_lt k h) hbc.size) (fun h => h ▸ hlz))).mono ?_
                  rintro e_ w6 ⟨A', c', rfl, hc', hC', hb6⟩
                  refine ⟨_, rfl, ?_⟩
                  have hal := (hb6.block _ (blk_lt hal)).trans hal
                  have hbc := below_step hbc hb6
                  refine hK.out _ _ ⟨(hq.out _ hbc).1, (hq.out _ hbc).2.1, (hq.out _ hbc).2.2.1, (hq.out _ hbc).2.2.2⟩ (fun hHeld => ?_)
                  clear hK K
                  refine norm_ (a' := ?_) ?_ ?_
                  rotate_left
                  · show Act.put _ (some 202) _ = _
                    simp only [Act.put, List.setIfInBounds_toArray, List.set_cons_zero, List.set_cons_succ, i64_w, i32_w]
                    rfl
                  refine p_ 7 (some 195) bHLawWaits44 ?_
                  refine p_ 8 (some 203) bHLawWaits45 ?_
                  refine p_ 9 (some 204) bHLawWaits37 ?_
                  exact norm_ (by simp only [putAll, Act.put, List.setIfInBounds_toArray, List.set_cons_zero, List.set_cons_succ]) (hCont (A', c', wl.heap.size) _ ⟨⟨(hq.out _ hbc).1, (hq.out _ hbc).2.1, (hq.out _ hbc).2.2.1, (hq.out _ hbc).2.2.2⟩, hc', hC', hal, hge, hbc⟩)
              rintro ⟨A', c', ga⟩ w8 ⟨hs8, hc', hC', hal, hge, hbc⟩
              have hHeld : w8.cell? ⟨w.heap.size, 0, none⟩ = some (.slice A l.length c) ∧ w8.cell? ⟨w.heap.size, 1, none⟩ = some (.int .u64 now) ∧ w8.cell? ⟨w.heap.size, 2, none⟩ = some (.int .u64 next) ∧ w8.cell? ap = some (.int .u64 m.f0) := hs8
              refine norm_ (a' := ?_) ?_ ?_
              rotate_left
              · simp only [putAll, Act.put, List.setIfInBounds_toArray, List.set_cons_zero, List.set_cons_succ]
                rfl
              refine last_ (i := 11) (N := none) bHLawWaits46 rfl rfl (by kernel_rfl) (by decide) (fun K hK => ?_)
              refine skip_storeBox (by rfl) rfl 25 (.tmp 20) (.tmp 203) rfl (.agg #[.slice A' lp.length c', .int .u64 now, .int .u64 next]) [.slice A' lp.length c', .int .u64 now, .int .u64 next] rfl rfl rfl (by kernel_rfl) (by simp [Value.oneCell']) hal rfl ?_
              intro w9 hK9 hg9 hs9
              refine hK.out _ _ ?_
              clear hK K
              refine p_ 12 (some 21) bHLawWaits47 ?_
              refine done_ (by kernel_rfl) ?_
              replace hge : wl.heap.size ≤ ga := hge
              replace hc' : lp.length ≤ c' := hc'
              have hB9 := hbc.grown hg9 hbc.size (fun k hk => by injection hk with hk; omega)
              have hC9 := Aside0.mk (sees_B57 (((Keeps.refl (W := w8)).grown hg9 (fun k hk => by injection hk with hk; exact .inl (.inr hk.symm))).sees (fun k hk => .inl hk)) hC')
              have hS9 := Aside0.mk (hSl.out.on hB9)
              obtain ⟨n, hn, hH9⟩ := hS9.out.hold
              obtain ⟨A5, c5, hcutr, hHc0, hown5⟩ := hH9.cut hj4 (hwj.out.trans hwr.out)
              rw [hvj.out] at hcutr
              have hHc := hHc0.on (Below.refl w9.heap.size w9).drew
              have hKg : w9.drew.heap[w.heap.size]? = some (.cells #[.slice A l.length c, .int .u64 now, .int .u64 next] 25 (0, 0)) := hS9.out.box
              obtain ⟨z0, z1, z2⟩ := box3 (W := w9.drew) hK9
              have hn9 := Lib.hid (show n < maxLen by simp only [maxLen]; omega)
              replace hB9 := Aside0.mk hB9
              replace hHc := Aside0.mk hHc
              clear hHeld hs8 hs9 hg9 hbc hal hC' hHc0 hH9 hq hack
              go_wp2_with fail
              replace hHc := hHc.out
              refine start_ (n := 9) (S := fun w' => w'.cell? ⟨ga, 0, none⟩ = some (.slice A' lp.length c') ∧ w'.cell? ⟨ga, 1, none⟩ = some (.int .u64 now) ∧ w'.cell? ⟨ga, 2, none⟩ = some (.int .u64 next)) (ds := [5, 6, 8]) #[false, false, false, false, false, false, false, false, false] (by kernel_rfl) rfl rfl ⟨z0, z1, z2⟩ (fun hHeld => ?_)
              refine p_ 0 (some 207) #[true, false, false, false, false, false, false, false, false] ?_
              refine p_ 1 (some 208) #[true, true, false, false, false, false, false, false, false] ?_
              refine p_ 3 (some 210) #[true, true, false, true, false, false, false, false, false] ?_
              refine p_ 4 (some 211) #[true, true, false, true, true, false, false, false, false] ?_
              refine t_ 2 (some 209) #[true, true, true, true, true, false, false, false, false] hHeld (hv := by rintro w' ⟨s0, s1, s2⟩; go_simp; with_reducible rfl) (h := ?_)
              refine last_ (i := 5) (N := none) #[true, true, true, true, true, true, false, false, false] rfl rfl (by kernel_rfl) (by decide) (fun K hK => ?_)
              refine skip_storeBox (by rfl) rfl 25 (.tmp 3) (.tmp 209) rfl (.agg #[.slice A' lp.length c', .int .u64 now, .int .u64 next]) [.slice A' lp.length c', .int .u64 now, .int .u64 next] rfl rfl rfl (by kernel_rfl) (by simp [Value.oneCell']) hKg rfl ?_
              intro w10 hK10 hg10 hs10
              have hH10 := hHc.box hKg (by decide) hg10
              obtain ⟨-, v0, st, w11, hme, w12, hes, hH12, hg12⟩ := hH10.stored hj4 hn9.out
              rw [upd_same] at hes hH12
              refine hK.out _ _ ?_
              clear hK K
              refine last_ (i := 6) (N := some 212) #[true, true, true, true, true, true, true, false, false] rfl rfl (by kernel_rfl) (by decide) (fun K hK => ?_)
              refine value_ (w1 := ?_) (v := ?_) (by rfl) rfl ?_ ?_
              rotate_left 2
              · go_simp
                constructor
                · rfl
                · rfl
              refine hK.out _ _ ?_
              clear hK K
              refine norm_ (a' := ?_) ?_ ?_
              rotate_left
              · show Act.put _ (some 212) _ = _
                simp only [Act.put, List.setIfInBounds_toArray, List.set_cons_zero, List.set_cons_succ, i64_w, i32_w]
                rfl
              refine p_ 7 (some 213) #[true, true, true, true, true, true, true, true, false] ?_
              refine last_ (i := 8) (N := none) #[true, true, true, true, true, true, true, true, true] rfl rfl (by kernel_rfl) (by decide) (fun K hK => ?_)
              refine skip_ (w1 := ?_) (by rfl) rfl ?_ ?_
              rotate_left
              · go_simp
                rfl
              refine hK.out _ _ ?_
              clear hK K
              refine done_ (by kernel_rfl) ?_
              have hkp := ((((Keeps.refl (S := fun k => Own (w.heap.size + 1) w.heap.size vs k ∨ k = ga) (W := w9)).on (Below.refl w9.heap.size w9).drew).grown hg10 (fun k hk => by injection hk with hk; exact .inl (.inl (.inr (.inl hk.symm))))).grown hg12 (fun k hk => by injection hk with hk; exact .inl (.inl (.inl hk.symm))))
              have hBw9 := (hS9.out.below).drew
              have hBw10 := hBw9.grown hg10 hBw9.size (fun k hk => by injection hk with hk; omega)
              have hBw12 := hBw10.grown hg12 hBw10.size (fun k hk => by injection hk with hk; omega)
              have hSf : St w (w.heap.size + 1) w.heap.size (i + 1) w12 A' c' lp now next (upd vs j (.slice A5 r.length c5)) (upd ws j r) :=
                ⟨(hg12.block _ (blk_lt hK10) (by simp)).trans hK10, hc', sees_B57 (hkp.sees (fun k hk => (own_upd (n := w9.heap.size) hj4 (.inl hown5) k hk).elim (fun h => .inl (.inl h)) .inr)) hC9.out, ⟨n + 1, by omega, hH12⟩, hRa.out, hBw12, Nat.le_refl _, by omega⟩
              replace hSf := Aside0.mk hSf
              clear hkp hBw9 hBw10 hBw12 hH12 hg12 hK10 hg10 hs10 hH10 hHc hme hes hHeld z0 z1 z2 hcutr
              obtain ⟨r0, r1, r2⟩ := box3 hSf.out.box
              have hrc := Aside0.mk (right_calls A' c' lp now next w12 (sees_B57 bs_sees hSf.out.C) hSf.out.rel.wf (by omega))
              rw [hSf.out.rel.rel] at hrc
              go_wp2_with fail
              refine hrc.out.mono ?_; rintro e_ wz ⟨rfl, hbz⟩
              have hSz := hSf.out.on hbz
              go_wp2_with fail
              go_roundw
              case rel => exact ⟨i + 1, by omega, by go_num, A', c', lp, now, next, _, _, rfl, rfl, hSz⟩
              case measure => simp [intOf]; omega
        | false =>
          as_aux_lemma =>
            have htk := tick_callsS (Own (w.heap.size + 1) w.heap.size vs) A c l now next (s.size : Int) wx.drew hSx.out.own_lt (sees_B57 bs_sees hSx.out.C) hSx.out.cap (by omega) hwfl.out (by omega) (by omega)
            go_wp2_with fail
            refine htk.mono ?_; rintro e_ wp ⟨hE, hbp⟩
            clear htk r0 r1 r2 y0 y1 y2
            have hSp := Aside0.mk (hSx.out.on hbp)
            have hRt := hRl.out.tick (by omega) (t := (s.size : Int)) (by omega) (by omega)
            rcases hE with ⟨h, _⟩ | ⟨_, h, _⟩ | ⟨_, _, hsum, lp, A', c', hlp, rfl, hc', hC'⟩
            · rw [hRl.out.rel] at h; cases h
            · exact absurd h (by omega)
            · rw [hlp] at hRt
              obtain ⟨nw, hnw⟩ : ∃ nw, now + (s.size : Int) = nw := ⟨_, rfl⟩
              rw [hnw] at hRt hsum hlp ⊢
              have hnwb : 0 ≤ nw ∧ nw ≤ 1000000 := by omega
              have hnw2 : (now + (s.size : Int)) % 18446744073709551616 = nw := by omega
              obtain ⟨w3, hw3⟩ : ∃ w3, wp.alloc (.cells #[.slice none 0 0, .int .u64 0, .int .u64 0] 25) = w3 := ⟨_, rfl⟩
              have hb3 : Below wp.heap.size wp w3 := by rw [← hw3]; exact below_alloc (Below.refl _ _) _
              have hK3 : w3.heap[wp.heap.size]? = some (.cells #[.slice none 0 0, .int .u64 0, .int .u64 0] 25 (0, 0)) := by rw [← hw3]; exact heap_alloc_new _ _
              replace hlp := Lib.hid hlp
              replace hnw := Lib.hid hnw
              replace hRt := Aside0.mk hRt
              replace hC' := Aside0.mk hC'
              go_wp2_with (first | ((with_reducible refine gate_store (t := 25) (p := 22) rfl ?_); go_loud (refine wpList_storeBox rfl rfl 25 (.tmp 22) (.tmp 55) rfl (.agg #[.slice A' lp.length c', .int .u64 nw, .int .u64 next]) [.slice A' lp.length c', .int .u64 nw, .int .u64 next] rfl rfl rfl (by kernel_rfl) (by simp [Value.oneCell']) hK3 rfl ?_; intro w4 hK4 hg4 hs4; have hB4 : Below wp.heap.size wp w4 := hb3.grown hg4 hb3.size (fun k hk => by injection hk with hk; omega); have hS4 := Aside0.mk (hSp.out.on hB4); obtain ⟨z0, z1, z2⟩ := box3 hK4; have hKg := hS4.out.box)) | ((with_reducible refine gate_store (t := 25) (p := 3) rfl ?_); go_loud (refine wpList_storeBox rfl rfl 25 (.tmp 3) (.tmp 59) rfl (.agg #[.slice A' lp.length c', .int .u64 nw, .int .u64 next]) [.slice A' lp.length c', .int .u64 nw, .int .u64 next] rfl rfl rfl (by kernel_rfl) (by simp [Value.oneCell']) hKg rfl ?_; intro w5 hK5 hg5 hs5)))
              obtain ⟨n0, hn0, hH4⟩ := hS4.out.hold
              have hkp : Keeps (Own (w.heap.size + 1) w.heap.size vs) wp w5 := ((Keeps.refl (W := wp)).on hB4).grown hg5 (fun k hk => by injection hk with hk; exact .inl (.inr (.inl hk.symm)))
              have hT0 : Ts w (w.heap.size + 1) w.heap.size n0 w5 A' c' lp nw next vs ws := ⟨hK5, sees_B57 (hkp.sees (fun k hk => .inl hk)) hC'.out, hH4.box hKg (by decide) hg5, hS4.out.below.grown hg5 hS4.out.below.size (fun k hk => by injection hk with hk; omega)⟩
              replace hT0 := Aside0.mk hT0
              clear hkp hH4 hK5 hg5 hs5 hKg z0 z1 z2 hK4 hg4 hs4 hB4 hb3 hK3 hw3
              go_loopw [65] (fun v wy => ∃ u : Nat, u ≤ 4 ∧ v = .int .u64 (u : Int) ∧ ∃ n1 v1 s1, Ts w (w.heap.size + 1) w.heap.size n1 wy A' c' lp nw next v1 s1 ∧ n1 ≤ n0 + 20 * u ∧ ∀ k, k < 4 → s1 k = if k < u then (ws k).dropWhile (oldB nw) else ws k) (fun v _ => 4 - (intOf v).toNat)
              case atStart => exact ⟨0, by omega, rfl, n0, vs, ws, hT0.out, by omega, fun k _ => by rw [if_neg (by omega)]⟩
              case round =>
                clear hT0
                obtain ⟨u, hu, rfl, n1, v1, s1, hT, hn1, hs1⟩ := hrel
                by_cases hul : (u : Int) < 4
                · have hu4 : u < 4 := by omega
                  have hsu : s1 u = ws u := by rw [hs1 u hu4, if_neg (by omega)]
                  have hu16 := (hRl.out.ok hu4).len
                  replace hT := Aside0.mk hT
                  replace hs1 := Lib.hid hs1
                  replace hsu := Lib.hid hsu
                  go_wp2_with fail
                  go_loopg [] (ws u).length (fun k wy => ∃ n2 v2 s2, k = (s2 u).length ∧ Ts w (w.heap.size + 1) w.heap.size n2 wy A' c' lp nw next v2 s2 ∧ n2 + (s2 u).length ≤ n1 + (ws u).length ∧ CutR (oldB nw) (ws u) (s2 u) ∧ ∀ k, k < 4 → k ≠ u → s2 k = s1 k)
                  case atStart => exact ⟨n1, v1, s1, by rw [hsu.out], hT.out, by rw [hsu.out]; exact Nat.le_refl _, by rw [hsu.out]; exact CutR.start _ _, fun _ _ _ => rfl⟩
                  case round =>
                    obtain ⟨n2, v2, s2, hk2, hT2, hn2, hcr, hs2⟩ := hrel
                    have hlk := hT2.hold.lookup hu4
                    obtain ⟨A2, c2, hv2⟩ := (hT2.hold.row u hu4).slice
                    have hrow := hT2.hold.row u hu4
                    rw [hv2] at hrow hlk
                    cases hsz : s2 u with
                    | nil =>
                      rw [hsz, List.length_nil] at hlk
                      have hdone := hcr.done (fun m r e => by rw [hsz] at e; cases e)
                      have hTz := Aside0.mk hT2
                      have hend : ∀ k, k < 4 → s2 k = if k < u + 1 then (ws k).dropWhile (oldB nw) else ws k := fun k hk => by
                        by_cases e : k = u
                        · subst e; rw [if_pos (by omega)]; exact hdone
                        · rw [hs2 k hk e, hs1.out k hk]
                          by_cases e2 : k < u
                          · rw [if_pos e2, if_pos (by omega)]
                          · rw [if_neg e2, if_neg (by omega)]
                      have hle : n2 ≤ n0 + 20 * (u + 1) := by omega
                      have hnu : ((u : Int) + 1) % 18446744073709551616 = (u : Int) + 1 := by omega
                      replace hend := Lib.hid hend
                      clear hk2 hT2 hn2 hcr hs2 hv2 hrow hsz hdone
                      go_wp2_with fail
                      go_roundw
                      case rel => exact ⟨u + 1, by omega, by go_num, n2, v2, s2, hTz.out, hle, hend.out⟩
                      case measure => simp [intOf]; omega
                    | cons m r =>
                      have hTu := Aside0.mk hT2
                      rw [hsz, List.length_cons] at hlk hrow
                      rw [hsz] at hcr hn2
                      rw [hsz, List.length_cons] at hk2
                      rw [List.length_cons] at hn2
                      rw [hsz, List.length_cons] at hv2
                      obtain ⟨-, hc2, hC2⟩ := hrow.C
                      obtain ⟨ad, rfl, p0, p1, p2⟩ := at_T54 hC2 0 (by omega) (by omega)
                      have hm0 : rd_T54 (m :: r) 0 = m := rfl
                      rw [hm0, Int.toNat_zero, Nat.zero_mul, add0] at p2
                      have hmr : 0 ≤ m.f2 ∧ m.f2 ≤ nw := by
                        have hsub : m ∈ ws u := by
                          have h1 : m ∈ (m :: r) := by simp
                          exact (show List.Sublist (m :: r) (ws u) from hcr.2.2).subset h1
                        have h2 := hRl.out.lo u hu4 m hsub
                        have h3 := ((hRl.out.ok hu4).each m hsub).2.2.1
                        have h4 := hnw.out
                        omega
                      obtain ⟨dd, hdd⟩ : ∃ dd, nw - m.f2 = dd := ⟨_, rfl⟩
                      have hsb : IntKind.u64.wrap ((now + (s.size : Int)) - m.f2) = dd := by have := hnw.out; show ((now + (s.size : Int)) - m.f2) % 18446744073709551616 = dd; omega
                      have hold : oldB nw m = decide (50 < dd) := by rw [← hdd]; exact old_is hmr.1 hmr.2 hnwb.2
                      replace hs2 := Lib.hid hs2
                      replace hk2 := Lib.hid hk2
                      replace hn2 := Lib.hid hn2
                      replace hcr := Lib.hid hcr
                      replace hdd := Lib.hid hdd
                      clear hC2 hrow p0 p1 hm0
                      cases ho : decide (50 < dd) with
                      | false =>
                        rw [ho] at hold
                        have hdone := hcr.out.done (fun m' r' e => by injection e with e1 e2; rw [← e1]; exact hold)
                        have hend : ∀ k, k < 4 → s2 k = if k < u + 1 then (ws k).dropWhile (oldB nw) else ws k := fun k hk => by
                          by_cases e : k = u
                          · subst e; rw [if_pos (by omega), hsz]; exact hdone
                          · rw [hs2.out k hk e, hs1.out k hk]
                            by_cases e2 : k < u
                            · rw [if_pos e2, if_pos (by omega)]
                            · rw [if_neg e2, if_neg (by omega)]
                        have hle : n2 ≤ n0 + 20 * (u + 1) := by have := hn2.out; omega
                        have hnu : ((u : Int) + 1) % 18446744073709551616 = (u : Int) + 1 := by omega
                        replace hend := Lib.hid hend
                        replace hold := Lib.hid hold
                        replace hsz := Lib.hid hsz
                        replace hv2 := Lib.hid hv2
                        clear hT2 hdone hmr
                        go_wp2_with fail
                        go_roundw
                        case rel => exact ⟨u + 1, by omega, by go_num, n2, v2, s2, hTu.out, hle, hend.out⟩
                        case measure => simp [intOf]; omega
                      | true =>
                        rw [ho] at hold
                        obtain ⟨A5, c5, hsl5, W5, hup, hT5⟩ := hT2.cut hu4 (by simp only [maxLen]; have := hn2.out; omega) (by omega) hsz
                        rw [hv2] at hsl5
                        obtain ⟨eA, ec⟩ := cut_is hc2 hsl5 wr
                        clear hsl5 hc2
                        have hcr5 := hcr.out.step hold
                        replace hold := Lib.hid hold
                        replace hsz := Lib.hid hsz
                        replace hv2 := Lib.hid hv2
                        replace hT5 := Aside0.mk hT5
                        replace hcr5 := Lib.hid hcr5
                        clear hT2 hmr
                        by_cases h1 : c2 = 1
                        · rw [if_pos h1] at eA
                          subst h1
                          subst eA
                          have ec' : c5 = 0 := ec
                          subst ec'
                          clear ec
                          go_wp2_with fail
                          go_roundg r.length
                          case measure => have := hk2.out; omega
                          case rel => exact ⟨n2 + 1, _, _, by rw [upd_same], hT5.out, by rw [upd_same]; have := hn2.out; omega, by rw [upd_same]; exact hcr5.out, fun k hk hne => by rw [upd_ne _ _ hne]; exact hs2.out k hk hne⟩
                        · rw [if_neg h1, add3] at eA
                          subst eA
                          subst ec
                          have h1f : (c2 = 1) = False := eq_false h1
                          go_wp2_with fail
                          go_roundg r.length
                          case measure => have := hk2.out; omega
                          case rel => exact ⟨n2 + 1, _, _, by rw [upd_same], hT5.out, by rw [upd_same]; have := hn2.out; omega, by rw [upd_same]; exact hcr5.out, fun k hk hne => by rw [upd_ne _ _ hne]; exact hs2.out k hk hne⟩
                · obtain rfl : u = 4 := by omega
                  have hsf : ∀ k, k < 4 → s1 k = (ws k).dropWhile (oldB nw) := fun k hk => by rw [hs1 k hk, if_pos hk]
                  have hRz : Rel (i + 1) lp nw next s1 := by
                    have h := hRt.out
                    exact ⟨h.rel, h.us, fun k hk => by rw [h.mails k hk, hsf k hk], fun k hk => by rw [hsf k hk]; exact h.born k hk, fun k hk => by rw [hsf k hk]; exact h.lo k hk, h.bnd⟩
                  have hSf : St w (w.heap.size + 1) w.heap.size (i + 1) wr A' c' lp nw next v1 s1 := ⟨hT.box, hc', hT.C, ⟨n1, by omega, hT.hold⟩, hRz, hT.below, Nat.le_refl _, by omega⟩
                  replace hSf := Aside0.mk hSf
                  clear hT hs1 hsf hRz
                  obtain ⟨r0, r1, r2⟩ := box3 hSf.out.box
                  have hrc := Aside0.mk (right_calls A' c' lp nw next wr (sees_B57 bs_sees hSf.out.C) hSf.out.rel.wf (by omega))
                  rw [hSf.out.rel.rel] at hrc
                  go_wp2_with fail
                  refine hrc.out.mono ?_; rintro e_ wz ⟨rfl, hbz⟩
                  have hSz := hSf.out.on hbz
                  go_wp2_with fail
                  go_roundw
                  case rel => exact ⟨i + 1, by omega, by go_num, A', c', lp, nw, next, _, _, by rw [hnw.out], rfl, hSz⟩
                  case measure => simp [intOf]; omega
    · obtain rfl : i = N := by omega
      clear hlt hmn hmn2
      have hBz := hSt.below
      clear hSt
      replace hBz := Aside0.mk hBz
      go_wp2_with fail
      refine (alive_calls _).mono ?_; rintro e_ wz ⟨rfl, hbz⟩
      go_wp2_with fail
      go_ret
      exact ⟨rfl, below_step hBz.out hbz⟩
end Go.Proofs.Ytbmfcikjhnnnbaa.Q
