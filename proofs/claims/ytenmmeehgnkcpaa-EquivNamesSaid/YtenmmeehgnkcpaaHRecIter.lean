/- The iterator of a frame's recipes: it hands on, one by one, what is put and what is added to the list at work.
   Conditions: the list may be, the frame's places lie in it; a round of the loop keeps the list at work, and all rows of terms. -/
import Derived.Test.YtenmmeehgnkcpaaHCook
namespace Go.Proofs.Ytenmmeehgnkcpaa.Q
open Go.RowKit Go.Proofs.YtenmmeehgnkcpaaW.PrintWords Go.Proofs.YtenmmeehgnkcpaaW.PrintLast Go.Proofs.YtenmmeehgnkcpaaW.PrintMore
attribute [local go_sem] Oper.semAt_some
set_option linter.unusedVariables false
set_option linter.unusedSimpArgs false

set_option maxHeartbeats 2000000 in
set_option maxRecDepth 100000 in
theorem recipes_in (l g gc gf : Nat) (A0 Af : Option Addr) (cf : Nat) (l0 : List S28) (fr : List Int) (hfl : fr.length ≤ 5) (hfr : ∀ x ∈ fr, 0 ≤ x ∧ x < l0.length) (hl0 : l0.length ≤ 400) (hwf : ∀ t ∈ l0, wfT t) (hcf : fr.length ≤ cf)
    (J Jx : List It → World → Prop) (hJ : ∀ D W W', J D W → W.grownBy W' (some g) → J D W')
    (hY : ∀ D x W, (D ++ [x]) <+: items l0 fr → J D W → ItS g gc gf A0 Af cf fr (stL (l0, false) (D ++ [x])) W → YieldAt Fence.wide 1 Try.prog l #[.int .i64 (stepI (stL (l0, false) D) x).2] W fun e W' =>
      (e = .returned (.bool true) ∧ J (D ++ [x]) W' ∧ ItS g gc gf A0 Af cf fr (stL (l0, false) (D ++ [x])) W' ∧ Keep28 W W') ∨ (e = .returned (.bool false) ∧ Jx (D ++ [x]) W'))
    (W : World) (h0 : J [] W) (hs : ItS g gc gf A0 Af cf fr (l0, false) W) :
    CallsIn Fence.wide 2 Try.prog 67 #[.func (.yield l) #[] #[], .pointer (some ⟨gf, 0, none⟩), .pointer (some ⟨gc, 0, none⟩)] W fun e W' => (∃ v, e = .returned v) ∧
      ((J (items l0 fr) W' ∧ ItS g gc gf A0 Af cf fr (stL (l0, false) (items l0 fr)) W') ∨ (∃ D, D <+: items l0 fr ∧ Jx D W')) := by
  obtain ⟨it, hit⟩ : ∃ it, items l0 fr = it := ⟨_, rfl⟩
  rw [hit] at hY ⊢
  replace hit := Lib.hid hit
  replace hY := Lib.hid hY
  replace hJ := Lib.hid hJ
  have hokit : Hid (∀ x ∈ it, okIt x) := Lib.hid (by rw [← hit.out]; exact items_ok hl0 hwf hfr)
  have hokp : Hid (∀ Dx, Dx <+: it → okS (stL (l0, false) Dx)) := Lib.hid fun Dx h => (stL_ok Dx (s := (l0, false)) ⟨hl0, hwf⟩ (fun y hy => hokit.out y (h.subset hy))).1
  have hprep : Hid (∀ Dx, Dx <+: it → l0 <+: (stL (l0, false) Dx).1) := Lib.hid fun Dx h => (stL_ok Dx (s := (l0, false)) ⟨hl0, hwf⟩ (fun y hy => hokit.out y (h.subset hy))).2
  refine callsIn_of_wp Try.func67 rfl trivial ?_ rfl
  simp only [Try.ntmps67, List.size_toArray, List.length_cons, List.length_nil, Nat.reduceAdd, Nat.reduceSub, Array.replicate_succ, Array.replicate_zero, List.push_toArray, List.append_toArray, List.nil_append, List.cons_append]
  obtain ⟨z1, z2⟩ : W.cell? ⟨gf, 0, none⟩ = some (.slice Af fr.length cf) ∧ W.cell? ⟨gc, 0, none⟩ = some (.pointer (some ⟨g, 0, none⟩)) := ⟨box1 hs.2.2.1, box1 hs.2.1⟩
  gi_wp2
  obtain ⟨I2, hI2⟩ : ∃ I, fr.flatMap (it2 l0) = I := ⟨_, rfl⟩
  obtain ⟨I3, hI3⟩ : ∃ I, (fr.flatMap fun x => fr.flatMap (it3 l0 x)) = I := ⟨_, rfl⟩
  replace hI2 := Lib.hid hI2
  replace hI3 := Lib.hid hI3
  have hst : Hid (it = [] ++ ((fr.drop 0).map It.put ++ (I2 ++ I3))) := Lib.hid (by rw [← hit.out, ← hI2.out, ← hI3.out]; rfl)
  gi_loopw [17] (fun v wr => ∃ (i : Nat) (D : List It), i ≤ fr.length ∧ v = .int .i64 (i : Int) ∧ Hid (it = D ++ ((fr.drop i).map It.put ++ (I2 ++ I3))) ∧ J D wr ∧ ItS g gc gf A0 Af cf fr (stL (l0, false) D) wr) (fun v _ => fr.length - (intOf v).toNat)
  case atStart => exact ⟨0, [], by omega, rfl, hst, h0, hs⟩
  case round =>
    clear h0 hs z1 z2 hst
    obtain ⟨i, D, hi, rfl, hx, hJD, hS⟩ := hrel
    by_cases hlt : (i : Int) < fr.length
    · obtain ⟨ad, rfl, hcell⟩ := Kd.at_int hS.2.2.2 (i : Int) (by omega) (by omega)
      rw [Int.toNat_natCast] at hcell
      obtain ⟨x, hxe⟩ : ∃ x, rd fr (i : Int) = x := ⟨_, rfl⟩
      have hx2 : it = (D ++ [It.put x]) ++ ((fr.drop (i + 1)).map It.put ++ (I2 ++ I3)) := by
        rw [hx.out, drop_int fr i (by omega), hxe, List.map_cons, List.append_assoc]
        rfl
      rw [hxe] at hcell
      obtain ⟨fn, tmps, assign, body, hy, hR⟩ := hY.out D (.put x) wr ⟨_, hx2.symm⟩ hJD (by rw [stL_put]; exact hS)
      dsimp only [stepI] at hy
      replace hx2 := Lib.hid hx2
      clear hx
      gi_wp2
      refine hR.mono ?_
      rintro e W3 (⟨rfl, hJ3, hS3, hk3⟩ | ⟨rfl, hJx3⟩)
      · clear hR hS hJD
        gi_wp2
        go_roundw
        case rel => exact ⟨i + 1, _, by omega, by go_num, hx2, hJ3, hS3⟩
        case measure => simp [intOf]; omega
      · gi_wp2
        refine bodyPost_ret (results_none rfl _ _ _) rfl ?_
        exact ⟨⟨_, rfl⟩, .inr ⟨_, ⟨_, hx2.out.symm⟩, hJx3⟩⟩
    · obtain rfl : i = fr.length := by omega
      obtain ⟨z1, z2⟩ : wr.cell? ⟨gf, 0, none⟩ = some (.slice Af fr.length cf) ∧ wr.cell? ⟨gc, 0, none⟩ = some (.pointer (some ⟨g, 0, none⟩)) := ⟨box1 hS.2.2.1, box1 hS.2.1⟩
      have hx2 : Hid (it = D ++ ((fr.drop 0).flatMap (it2 l0) ++ I3)) := Lib.hid (by rw [hx.out, List.drop_length, List.drop_zero, hI2.out]; rfl)
      clear hx
      gi_wp2
      gi_loopw [28] (fun v wx => ∃ (i : Nat) (D : List It), i ≤ fr.length ∧ v = .int .i64 (i : Int) ∧ Hid (it = D ++ ((fr.drop i).flatMap (it2 l0) ++ I3)) ∧ J D wx ∧ ItS g gc gf A0 Af cf fr (stL (l0, false) D) wx) (fun v _ => fr.length - (intOf v).toNat)
      case atStart => exact ⟨0, D, by omega, rfl, hx2, hJD, hS⟩
      case round =>
        clear hJD hS z1 z2 hx2
        obtain ⟨i, D, hi, rfl, hx, hJD, hS⟩ := hrel
        by_cases hlt : (i : Int) < fr.length
        · have hx1 := hx.out
          rw [drop_int fr i (by omega), List.flatMap_cons] at hx1
          obtain ⟨hok, hpre⟩ := stL_ok D (s := (l0, false)) ⟨hl0, hwf⟩ (fun y hy => hokit.out y (by rw [hx1]; exact List.mem_append_left _ hy))
          obtain ⟨ad, rfl, hcell⟩ := Kd.at_int hS.2.2.2 (i : Int) (by omega) (by omega)
          rw [Int.toNat_natCast] at hcell
          obtain ⟨hx0, hx3⟩ := hfr (rd fr (i : Int)) (by rw [rdI_nat fr i (by omega)]; exact List.getElem_mem _)
          obtain ⟨x, hxe⟩ : ∃ x : Nat, rd fr (i : Int) = (x : Int) := ⟨(rd fr (i : Int)).toNat, by omega⟩
          rw [hxe] at hcell hx1 hx0 hx3
          obtain ⟨hrd, hxn⟩ := rd_prefix hpre x (by simpa using hx3)
          have hS0 := hS
          obtain ⟨⟨A, c, hbox, hcc, hC, hrow⟩, hgc, hgf, hCf⟩ := hS0
          obtain ⟨adA, eA, q0, q1, q2, q3⟩ := at_T28 hC (x : Int) (by omega) (by omega)
          subst eA
          simp only [hrd] at q0 q1 q2 q3
          rw [Int.toNat_natCast] at q0 q1 q2 q3
          have z1 := (box2 hbox).1
          have z2 := box1 hgc
          obtain ⟨n, hn⟩ : ∃ n, (stL (l0, false) D).1.length = n := ⟨_, rfl⟩
          rw [hn] at hxn z1
          obtain ⟨t, ht⟩ : ∃ t, rd_T28 l0 (x : Int) = t := ⟨_, rfl⟩
          rw [ht] at q0 q1 q2 q3
          obtain ⟨v3, hv3⟩ : ∃ v, (if t.f0 = 4 then t.f2 else -1) = v := ⟨_, rfl⟩
          obtain ⟨v4, hv4⟩ : ∃ v, (if t.f0 = 4 then t.f3 else -1) = v := ⟨_, rfl⟩
          have hq3 : Hid (∀ W, Calls Try.prog 69 #[.bool (t.f0 == 4), .int .i64 t.f2] W fun e w' => e = .returned (.int .i64 v3) ∧ w' = W) := Lib.hid fun W => by have := part_calls (t.f0 == 4) t.f2 W; simp only [beq_iff_eq, hv3] at this; exact this
          have hq4 : Hid (∀ W, Calls Try.prog 69 #[.bool (t.f0 == 4), .int .i64 t.f3] W fun e w' => e = .returned (.int .i64 v4) ∧ w' = W) := Lib.hid fun W => by have := part_calls (t.f0 == 4) t.f3 W; simp only [beq_iff_eq, hv4] at this; exact this
          obtain ⟨p1, p2, p3, p4, hend⟩ := four_of (it := it) (D := D) (a := .add ⟨1, 0, x, 0⟩) (b := .add ⟨3, 0, x, 0⟩) (c := .put v3) (d := .put v4) (R := (fr.drop (i + 1)).flatMap (it2 l0) ++ I3) (by rw [hx1]; unfold it2; rw [ht, hv3, hv4, List.append_assoc])
          have hok2 := (step_ok hok (x := .add ⟨1, 0, x, 0⟩) (hokit.out _ (p1.subset (List.mem_append_right _ (List.mem_singleton_self _))))).1
          rw [← stL_snoc] at hok2
          replace hend := Lib.hid hend
          clear hx1 hx hn ht hv3 hv4 hbox hcc hC hrow hgc hgf hCf hpre hrd hxe
          obtain ⟨w2, hw2⟩ : ∃ w2, wr.alloc (.cells #[.int .i64 0, .int .u64 0, .int .i64 0, .int .i64 0] 28 (0, 0)) = w2 := ⟨_, rfl⟩
          have hb2 : Below wr.heap.size wr w2 := by rw [← hw2]; exact below_alloc (Below.refl _ _) _
          have hK2 : w2.heap[wr.heap.size]? = some (.cells #[.int .i64 0, .int .u64 0, .int .i64 0, .int .i64 0] 28 (0, 0)) := by rw [← hw2]; exact heap_alloc_new _ _
          gi_wp2_with ((with_reducible refine gateIn_store (t := 28) (p := 8) rfl ?_); go_loud (refine wpListIn_storeBox rfl rfl 28 (.tmp 8) (.tmp 38) rfl (tv t) [.int .i64 t.f0, .int .u64 t.f1, .int .i64 t.f2, .int .i64 t.f3] rfl rfl rfl (by kernel_rfl) (by simp [Value.oneCell']) hK2 rfl ?_); intro w3 hK3 hg3 hs3; have hb3 := hb2.grown hg3 hb2.size (fun k hk => by cases hk; exact Nat.le_refl _); have hS3 := itS_below hS hb3; have z3 := box1 hS3.2.1; have hJ3 := hJ.out _ _ _ hJD (grown_any hb3 g); clear z1 z2 q0 q1 q2 q3 hS hJD hg3 hs3 hb3)
          refine ⟨trivial, (callsIn_wide.2 (cook_at ⟨1, 0, x, 0⟩ hS3 hok)).mono ?_⟩
          rintro e w4 ⟨rfl, hS4, hk4, hg4⟩
          have hJ4 := hJ.out _ _ _ hJ3 hg4
          obtain ⟨fn, tmps, assign, body, hy, hR⟩ := hY.out D _ w4 p1 hJ4 hS4
          generalize (stepI (stL (l0, false) D) (.add ⟨1, 0, x, 0⟩)).2 = v1 at hy ⊢
          have hK4 := hk4 _ _ hK3
          clear hS3 hJ3 z3 hg4 hk4 hK3 hK2 hw2 hb2 hok hS4 hJ4
          gi_wp2
          refine hR.mono ?_
          rintro e w5 (⟨rfl, hJ5, hS5, hk5⟩ | ⟨rfl, hJx⟩)
          · have hK5 := hk5 _ _ hK4
            have z5 := box1 hS5.2.1
            clear hR hy hK4 hk5 p1
            gi_wp2
            refine ⟨trivial, (callsIn_wide.2 (cook_at ⟨3, 0, x, 0⟩ hS5 hok2)).mono ?_⟩
            rintro e w6 ⟨rfl, hS6, hk6, hg6⟩
            have hJ6 := hJ.out _ _ _ hJ5 hg6
            obtain ⟨fn, tmps, assign, body, hy, hR⟩ := hY.out _ _ w6 p2 hJ6 hS6
            generalize (stepI (stL (l0, false) (D ++ [.add ⟨1, 0, x, 0⟩])) (.add ⟨3, 0, x, 0⟩)).2 = v2 at hy ⊢
            have hK6 := hk6 _ _ hK5
            clear hS5 hJ5 z5 hg6 hk6 hK5 hok2 hS6 hJ6
            gi_wp2
            refine hR.mono ?_
            rintro e w7 (⟨rfl, hJ7, hS7, hk7⟩ | ⟨rfl, hJx⟩)
            · have hK7 := hk7 _ _ hK6
              obtain ⟨y0, y1, y2, y3⟩ := box4 hK7
              clear hR hy hK6 hk7 p2
              gi_wp2
              refine ⟨trivial, (callsIn_wide.2 (hq3.out w7)).mono ?_⟩
              rintro e w8 ⟨rfl, rfl⟩
              obtain ⟨fn, tmps, assign, body, hy, hR⟩ := hY.out _ _ w8 p3 hJ7 (by rw [stL_put]; exact hS7)
              dsimp only [stepI] at hy
              clear hS7 hJ7 y0 y1 y2 y3 hq3
              gi_wp2
              refine hR.mono ?_
              rintro e w9 (⟨rfl, hJ9, hS9, hk9⟩ | ⟨rfl, hJx⟩)
              · have hK9 := hk9 _ _ hK7
                obtain ⟨y0, y1, y2, y3⟩ := box4 hK9
                clear hR hy hK7 hk9 p3
                gi_wp2
                refine ⟨trivial, (callsIn_wide.2 (hq4.out w9)).mono ?_⟩
                rintro e w10 ⟨rfl, rfl⟩
                obtain ⟨fn, tmps, assign, body, hy, hR⟩ := hY.out _ _ w10 p4 hJ9 (by rw [stL_put]; exact hS9)
                dsimp only [stepI] at hy
                clear hS9 hJ9 y0 y1 y2 y3 hq4
                gi_wp2
                refine hR.mono ?_
                rintro e w11 (⟨rfl, hJ11, hS11, hk11⟩ | ⟨rfl, hJx⟩)
                · clear hR hy hK9 hk11 p4
                  gi_wp2
                  go_roundw
                  case rel => exact ⟨i + 1, _, by omega, by go_num, hend, hJ11, hS11⟩
                  case measure => simp [intOf]; omega
                · gi_wp2
                  refine bodyPost_ret (results_none rfl _ _ _) rfl ?_
                  exact ⟨⟨_, rfl⟩, .inr ⟨_, p4, hJx⟩⟩
              · gi_wp2
                repeat ((first | refine ⟨(trivial : Fence.wide.fn _), ?_⟩ | refine ⟨fun _ h => (by cases h), ?_⟩); gi_wp2)
                refine bodyPost_ret (results_none rfl _ _ _) rfl ?_
                exact ⟨⟨_, rfl⟩, .inr ⟨_, p3, hJx⟩⟩
            · gi_wp2
              repeat ((first | refine ⟨(trivial : Fence.wide.fn _), ?_⟩ | refine ⟨fun _ h => (by cases h), ?_⟩); gi_wp2)
              refine bodyPost_ret (results_none rfl _ _ _) rfl ?_
              exact ⟨⟨_, rfl⟩, .inr ⟨_, p2, hJx⟩⟩
          · gi_wp2
            repeat ((first | refine ⟨(trivial : Fence.wide.fn _), ?_⟩ | refine ⟨fun _ h => (by cases h), ?_⟩); gi_wp2)
            refine bodyPost_ret (results_none rfl _ _ _) rfl ?_
            exact ⟨⟨_, rfl⟩, .inr ⟨_, p1, hJx⟩⟩
        · obtain rfl : i = fr.length := by omega
          obtain ⟨z1, z2⟩ : wr.cell? ⟨gf, 0, none⟩ = some (.slice Af fr.length cf) ∧ wr.cell? ⟨gc, 0, none⟩ = some (.pointer (some ⟨g, 0, none⟩)) := ⟨box1 hS.2.2.1, box1 hS.2.1⟩
          --@@LOOPS
          have hx2 : Hid (it = D ++ ((fr.drop 0).flatMap fun x => fr.flatMap (it3 l0 x))) := Lib.hid (by rw [hx.out, List.drop_length, List.drop_zero, hI3.out]; rfl)
          clear hx
          gi_wp2
          gi_loopw [80] (fun v wx => ∃ (i : Nat) (D : List It), i ≤ fr.length ∧ v = .int .i64 (i : Int) ∧ Hid (it = D ++ ((fr.drop i).flatMap fun x => fr.flatMap (it3 l0 x))) ∧ J D wx ∧ ItS g gc gf A0 Af cf fr (stL (l0, false) D) wx) (fun v _ => fr.length - (intOf v).toNat)
          case atStart => exact ⟨0, D, by omega, rfl, hx2, hJD, hS⟩
          case round =>
            clear hJD hS z1 z2 hx2
            obtain ⟨i, D, hi, rfl, hx, hJD, hS⟩ := hrel
            by_cases hlt : (i : Int) < fr.length
            · have hx1 := hx.out
              rw [drop_int fr i (by omega), List.flatMap_cons] at hx1
              obtain ⟨ad, rfl, hcell⟩ := Kd.at_int hS.2.2.2 (i : Int) (by omega) (by omega)
              rw [Int.toNat_natCast] at hcell
              obtain ⟨hx0, hx3⟩ := hfr (rd fr (i : Int)) (by rw [rdI_nat fr i (by omega)]; exact List.getElem_mem _)
              obtain ⟨x, hxe⟩ : ∃ x : Nat, rd fr (i : Int) = (x : Int) := ⟨(rd fr (i : Int)).toNat, by omega⟩
              rw [hxe] at hcell hx1
              have hx2 : Hid (it = D ++ ((fr.drop 0).flatMap (it3 l0 x) ++ (fr.drop (i + 1)).flatMap fun x => fr.flatMap (it3 l0 x))) := Lib.hid hx1
              have z1 := box1 hS.2.2.1
              clear hx hx1 hx0 hx3 hxe
              gi_wp2
              gi_loopw [86] (fun v wx => ∃ (j : Nat) (D : List It), j ≤ fr.length ∧ v = .int .i64 (j : Int) ∧ Hid (it = D ++ ((fr.drop j).flatMap (it3 l0 x) ++ (fr.drop (i + 1)).flatMap fun x => fr.flatMap (it3 l0 x))) ∧ J D wx ∧ ItS g gc gf A0 (some ad) cf fr (stL (l0, false) D) wx) (fun v _ => fr.length - (intOf v).toNat)
              case atStart => exact ⟨0, D, by omega, rfl, hx2, hJD, hS⟩
              case round =>
                clear hJD hS z1 hx2 hcell
                obtain ⟨j, D, hj, rfl, hx, hJD, hS⟩ := hrel
                by_cases hlt2 : (j : Int) < fr.length
                · have hx1 := hx.out
                  rw [drop_int fr j (by omega), List.flatMap_cons] at hx1
                  have hok0 := hokp.out D ⟨_, hx1.symm⟩
                  have hpre := hprep.out D ⟨_, hx1.symm⟩
                  obtain ⟨ad2, e2, hcell⟩ := Kd.at_int hS.2.2.2 (j : Int) (by omega) (by omega)
                  injection e2 with e2
                  subst e2
                  rw [Int.toNat_natCast] at hcell
                  obtain ⟨hx0, hx3⟩ := hfr (rd fr (j : Int)) (by rw [rdI_nat fr j (by omega)]; exact List.getElem_mem _)
                  obtain ⟨y, hxe⟩ : ∃ y : Nat, rd fr (j : Int) = (y : Int) := ⟨(rd fr (j : Int)).toNat, by omega⟩
                  rw [hxe] at hcell hx1 hx0 hx3
                  obtain ⟨hrd, hxn⟩ := rd_prefix hpre y (by simpa using hx3)
                  have hS0 := hS
                  obtain ⟨⟨A, c, hbox, hcc, hC, hrow⟩, hgc, hgf, hCf⟩ := hS0
                  obtain ⟨adA, eA, q0, q1, q2, q3⟩ := at_T28 hC (y : Int) (by omega) (by omega)
                  subst eA
                  simp only [hrd] at q0 q1 q2 q3
                  rw [Int.toNat_natCast] at q0 q1 q2 q3
                  have z1 := (box2 hbox).1
                  have z2 := box1 hgc
                  obtain ⟨n, hn⟩ : ∃ n, (stL (l0, false) D).1.length = n := ⟨_, rfl⟩
                  rw [hn] at hxn z1
                  obtain ⟨t, ht⟩ : ∃ t, rd_T28 l0 (y : Int) = t := ⟨_, rfl⟩
                  rw [ht] at q0 q1 q2 q3
                  obtain ⟨v3, hv3⟩ : ∃ v, (if t.f0 = 5 ∧ t.f2 = (x : Int) then t.f3 else -1) = v := ⟨_, rfl⟩
                  obtain ⟨a, ha⟩ : ∃ a, (if t.f0 = 1 then It.add ⟨2, 0, x, t.f2⟩ else It.put (-1)) = a := ⟨_, rfl⟩
                  obtain ⟨p1, p2, p3, p4, hend⟩ := four_of (it := it) (D := D) (a := a) (b := .add ⟨4, 0, x, y⟩) (c := .put v3) (d := .add ⟨6, 0, x, y⟩) (R := (fr.drop (j + 1)).flatMap (it3 l0 x) ++ (fr.drop (i + 1)).flatMap fun x => fr.flatMap (it3 l0 x)) (by rw [hx1]; unfold it3; rw [ht, hv3, ha, List.append_assoc])
                  have hok1 := hokp.out _ p1
                  have hok3 := hokp.out _ p3
                  replace hend := Lib.hid hend
                  clear hx1 hx hn ht hbox hcc hC hrow hgc hgf hCf hpre hrd hxe
                  obtain ⟨w2, hw2⟩ : ∃ w2, wr.alloc (.cells #[.int .i64 0, .int .u64 0, .int .i64 0, .int .i64 0] 28 (0, 0)) = w2 := ⟨_, rfl⟩
                  have hb2 : Below wr.heap.size wr w2 := by rw [← hw2]; exact below_alloc (Below.refl _ _) _
                  have hK2 : w2.heap[wr.heap.size]? = some (.cells #[.int .i64 0, .int .u64 0, .int .i64 0, .int .i64 0] 28 (0, 0)) := by rw [← hw2]; exact heap_alloc_new _ _
                  by_cases h1 : t.f0 = 1
                  · rw [if_pos h1] at ha
                    subst ha
                    have e1 : (t.f0 == 1) = true := beq_iff_eq.2 h1
                    have e5 : (t.f0 == 5) = false := beq_eq_false_iff_ne.2 (by omega)
                    have hq3 : Hid (∀ W, Calls Try.prog 69 #[.bool false, .int .i64 t.f3] W fun e w' => e = .returned (.int .i64 v3) ∧ w' = W) := Lib.hid fun W => by have := part_calls false t.f3 W; rw [← hv3, if_neg (by omega)]; exact this
                    replace h1 := Lib.hid h1
                    clear hv3
                    gi_wp2_with ((with_reducible refine gateIn_store (t := 28) (p := 13) rfl ?_); go_loud (refine wpListIn_storeBox rfl rfl 28 (.tmp 13) (.tmp 96) rfl (tv t) [.int .i64 t.f0, .int .u64 t.f1, .int .i64 t.f2, .int .i64 t.f3] rfl rfl rfl (by kernel_rfl) (by simp [Value.oneCell']) hK2 rfl ?_); intro w3 hK3 hg3 hs3; have hb3 := hb2.grown hg3 hb2.size (fun k hk => by cases hk; exact Nat.le_refl _); have hS3 := itS_below hS hb3; have z3 := box1 hS3.2.1; have hJ3 := hJ.out _ _ _ hJD (grown_any hb3 g); obtain ⟨y0, y1, y2, y3⟩ := box4 hK3; clear z1 z2 q0 q1 q2 q3 hS hJD hg3 hs3 hb3)
                    refine ⟨trivial, (callsIn_wide.2 (cook_at ⟨2, 0, x, t.f2⟩ hS3 hok0)).mono ?_⟩
                    rintro e w4 ⟨rfl, hS4, hk4, hg4⟩
                    have hJ4 := hJ.out _ _ _ hJ3 hg4
                    obtain ⟨fn, tmps, assign, body, hy, hR⟩ := hY.out D _ w4 p1 hJ4 hS4
                    generalize (stepI (stL (l0, false) D) (.add ⟨2, 0, x, t.f2⟩)).2 = v1 at hy ⊢
                    have hK4 := hk4 _ _ hK3
                    clear hS3 hJ3 z3 hg4 hk4 hK3 hK2 hw2 hb2 hok0 hS4 hJ4 y0 y1 y2 y3
                    gi_wp2
                    refine hR.mono ?_
                    rintro e w5 (⟨rfl, hJ5, hS5, hk5⟩ | ⟨rfl, hJx⟩)
                    · have hK5 := hk5 _ _ hK4
                      have z5 := box1 hS5.2.1
                      clear hR hy hK4 hk5 p1
                      gi_wp2
                      refine ⟨trivial, (callsIn_wide.2 (cook_at ⟨4, 0, x, y⟩ hS5 hok1)).mono ?_⟩
                      rintro e w6 ⟨rfl, hS6, hk6, hg6⟩
                      have hJ6 := hJ.out _ _ _ hJ5 hg6
                      obtain ⟨fn, tmps, assign, body, hy, hR⟩ := hY.out _ _ w6 p2 hJ6 hS6
                      generalize (stepI (stL (l0, false) (D ++ [(It.add ⟨2, 0, x, t.f2⟩)])) (.add ⟨4, 0, x, y⟩)).2 = v2 at hy ⊢
                      have hK6 := hk6 _ _ hK5
                      clear hS5 hJ5 z5 hg6 hk6 hK5 hok1 hS6 hJ6
                      gi_wp2
                      refine hR.mono ?_
                      rintro e w7 (⟨rfl, hJ7, hS7, hk7⟩ | ⟨rfl, hJx⟩)
                      · have hK7 := hk7 _ _ hK6
                        obtain ⟨y0, y1, y2, y3⟩ := box4 hK7
                        clear hR hy hK6 hk7 p2
                        gi_wp2
                        refine ⟨trivial, (callsIn_wide.2 (hq3.out w7)).mono ?_⟩
                        rintro e w8 ⟨rfl, rfl⟩
                        obtain ⟨fn, tmps, assign, body, hy, hR⟩ := hY.out _ _ w8 p3 hJ7 (by rw [stL_put]; exact hS7)
                        dsimp only [stepI] at hy
                        clear hS7 hJ7 y0 y1 y2 y3 hq3
                        gi_wp2
                        refine hR.mono ?_
                        rintro e w9 (⟨rfl, hJ9, hS9, hk9⟩ | ⟨rfl, hJx⟩)
                        · have z9 := box1 hS9.2.1
                          clear hR hy hK7 hk9 p3
                          gi_wp2
                          refine ⟨trivial, (callsIn_wide.2 (cook_at ⟨6, 0, x, y⟩ hS9 hok3)).mono ?_⟩
                          rintro e w10 ⟨rfl, hS10, hk10, hg10⟩
                          have hJ10 := hJ.out _ _ _ hJ9 hg10
                          obtain ⟨fn, tmps, assign, body, hy, hR⟩ := hY.out _ _ w10 p4 hJ10 hS10
                          generalize (stepI (stL (l0, false) (D ++ [(It.add ⟨2, 0, x, t.f2⟩)] ++ [It.add ⟨4, 0, x, y⟩] ++ [It.put v3])) (.add ⟨6, 0, x, y⟩)).2 = v4 at hy ⊢
                          clear hS9 hJ9 z9 hg10 hk10 hok3 hS10 hJ10
                          gi_wp2
                          refine hR.mono ?_
                          rintro e w11 (⟨rfl, hJ11, hS11, hk11⟩ | ⟨rfl, hJx⟩)
                          · clear hR hy hk11 p4
                            gi_wp2
                            go_roundw
                            case rel => exact ⟨j + 1, _, by omega, by go_num, hend, hJ11, hS11⟩
                            case measure => simp [intOf]; omega
                          · gi_wp2
                            refine bodyPost_ret (results_none rfl _ _ _) rfl ?_
                            exact ⟨⟨_, rfl⟩, .inr ⟨_, p4, hJx⟩⟩
                        · gi_wp2
                          repeat ((first | refine ⟨(trivial : Fence.wide.fn _), ?_⟩ | refine ⟨fun _ h => (by cases h), ?_⟩); gi_wp2)
                          refine bodyPost_ret (results_none rfl _ _ _) rfl ?_
                          exact ⟨⟨_, rfl⟩, .inr ⟨_, p3, hJx⟩⟩
                      · gi_wp2
                        repeat ((first | refine ⟨(trivial : Fence.wide.fn _), ?_⟩ | refine ⟨fun _ h => (by cases h), ?_⟩); gi_wp2)
                        refine bodyPost_ret (results_none rfl _ _ _) rfl ?_
                        exact ⟨⟨_, rfl⟩, .inr ⟨_, p2, hJx⟩⟩
                    · gi_wp2
                      repeat ((first | refine ⟨(trivial : Fence.wide.fn _), ?_⟩ | refine ⟨fun _ h => (by cases h), ?_⟩); gi_wp2)
                      refine bodyPost_ret (results_none rfl _ _ _) rfl ?_
                      exact ⟨⟨_, rfl⟩, .inr ⟨_, p1, hJx⟩⟩
                  · rw [if_neg h1] at ha
                    subst ha
                    have e1 : (t.f0 == 1) = false := beq_eq_false_iff_ne.2 h1
                    replace h1 := Lib.hid h1
                    by_cases h5 : t.f0 = 5
                    · have e5 : (t.f0 == 5) = true := beq_iff_eq.2 h5
                      have hq3 : Hid (∀ W, Calls Try.prog 69 #[.bool (t.f2 == (x : Int)), .int .i64 t.f3] W fun e w' => e = .returned (.int .i64 v3) ∧ w' = W) := Lib.hid fun W => by have := part_calls (t.f2 == (x : Int)) t.f3 W; simp only [beq_iff_eq] at this; simp only [h5, true_and] at hv3; rw [hv3] at this; exact this
                      replace h5 := Lib.hid h5
                      clear hv3
                      gi_wp2_with ((with_reducible refine gateIn_store (t := 28) (p := 13) rfl ?_); go_loud (refine wpListIn_storeBox rfl rfl 28 (.tmp 13) (.tmp 96) rfl (tv t) [.int .i64 t.f0, .int .u64 t.f1, .int .i64 t.f2, .int .i64 t.f3] rfl rfl rfl (by kernel_rfl) (by simp [Value.oneCell']) hK2 rfl ?_); intro w3 hK3 hg3 hs3; have hb3 := hb2.grown hg3 hb2.size (fun k hk => by cases hk; exact Nat.le_refl _); have hS3 := itS_below hS hb3; have z3 := box1 hS3.2.1; have hJ3 := hJ.out _ _ _ hJD (grown_any hb3 g); obtain ⟨y0, y1, y2, y3⟩ := box4 hK3; clear z1 z2 q0 q1 q2 q3 hS hJD hg3 hs3 hb3; obtain ⟨fn, tmps, assign, body, hy, hR⟩ := hY.out D (.put (-1)) w3 p1 hJ3 (by rw [stL_put]; exact hS3); dsimp only [stepI] at hy)
                      have hK4 := hK3
                      clear hS3 hJ3 z3 hK3 hK2 hw2 hb2 hok0 y0 y1 y2 y3
                      refine hR.mono ?_
                      rintro e w5 (⟨rfl, hJ5, hS5, hk5⟩ | ⟨rfl, hJx⟩)
                      · have hK5 := hk5 _ _ hK4
                        have z5 := box1 hS5.2.1
                        clear hR hy hK4 hk5 p1
                        gi_wp2
                        refine ⟨trivial, (callsIn_wide.2 (cook_at ⟨4, 0, x, y⟩ hS5 hok1)).mono ?_⟩
                        rintro e w6 ⟨rfl, hS6, hk6, hg6⟩
                        have hJ6 := hJ.out _ _ _ hJ5 hg6
                        obtain ⟨fn, tmps, assign, body, hy, hR⟩ := hY.out _ _ w6 p2 hJ6 hS6
                        generalize (stepI (stL (l0, false) (D ++ [(It.put (-1))])) (.add ⟨4, 0, x, y⟩)).2 = v2 at hy ⊢
                        have hK6 := hk6 _ _ hK5
                        clear hS5 hJ5 z5 hg6 hk6 hK5 hok1 hS6 hJ6
                        gi_wp2
                        refine hR.mono ?_
                        rintro e w7 (⟨rfl, hJ7, hS7, hk7⟩ | ⟨rfl, hJx⟩)
                        · have hK7 := hk7 _ _ hK6
                          obtain ⟨y0, y1, y2, y3⟩ := box4 hK7
                          clear hR hy hK6 hk7 p2
                          gi_wp2
                          refine ⟨trivial, (callsIn_wide.2 (hq3.out w7)).mono ?_⟩
                          rintro e w8 ⟨rfl, rfl⟩
                          obtain ⟨fn, tmps, assign, body, hy, hR⟩ := hY.out _ _ w8 p3 hJ7 (by rw [stL_put]; exact hS7)
                          dsimp only [stepI] at hy
                          clear hS7 hJ7 y0 y1 y2 y3 hq3
                          gi_wp2
                          refine hR.mono ?_
                          rintro e w9 (⟨rfl, hJ9, hS9, hk9⟩ | ⟨rfl, hJx⟩)
                          · have z9 := box1 hS9.2.1
                            clear hR hy hK7 hk9 p3
                            gi_wp2
                            refine ⟨trivial, (callsIn_wide.2 (cook_at ⟨6, 0, x, y⟩ hS9 hok3)).mono ?_⟩
                            rintro e w10 ⟨rfl, hS10, hk10, hg10⟩
                            have hJ10 := hJ.out _ _ _ hJ9 hg10
                            obtain ⟨fn, tmps, assign, body, hy, hR⟩ := hY.out _ _ w10 p4 hJ10 hS10
                            generalize (stepI (stL (l0, false) (D ++ [(It.put (-1))] ++ [It.add ⟨4, 0, x, y⟩] ++ [It.put v3])) (.add ⟨6, 0, x, y⟩)).2 = v4 at hy ⊢
                            clear hS9 hJ9 z9 hg10 hk10 hok3 hS10 hJ10
                            gi_wp2
                            refine hR.mono ?_
                            rintro e w11 (⟨rfl, hJ11, hS11, hk11⟩ | ⟨rfl, hJx⟩)
                            · clear hR hy hk11 p4
                              gi_wp2
                              go_roundw
                              case rel => exact ⟨j + 1, _, by omega, by go_num, hend, hJ11, hS11⟩
                              case measure => simp [intOf]; omega
                            · gi_wp2
                              refine bodyPost_ret (results_none rfl _ _ _) rfl ?_
                              exact ⟨⟨_, rfl⟩, .inr ⟨_, p4, hJx⟩⟩
                          · gi_wp2
                            repeat ((first | refine ⟨(trivial : Fence.wide.fn _), ?_⟩ | refine ⟨fun _ h => (by cases h), ?_⟩); gi_wp2)
                            refine bodyPost_ret (results_none rfl _ _ _) rfl ?_
                            exact ⟨⟨_, rfl⟩, .inr ⟨_, p3, hJx⟩⟩
                        · gi_wp2
                          repeat ((first | refine ⟨(trivial : Fence.wide.fn _), ?_⟩ | refine ⟨fun _ h => (by cases h), ?_⟩); gi_wp2)
                          refine bodyPost_ret (results_none rfl _ _ _) rfl ?_
                          exact ⟨⟨_, rfl⟩, .inr ⟨_, p2, hJx⟩⟩
                      · gi_wp2
                        repeat ((first | refine ⟨(trivial : Fence.wide.fn _), ?_⟩ | refine ⟨fun _ h => (by cases h), ?_⟩); gi_wp2)
                        refine bodyPost_ret (results_none rfl _ _ _) rfl ?_
                        exact ⟨⟨_, rfl⟩, .inr ⟨_, p1, hJx⟩⟩
                    · have e5 : (t.f0 == 5) = false := beq_eq_false_iff_ne.2 h5
                      have hq3 : Hid (∀ W, Calls Try.prog 69 #[.bool false, .int .i64 t.f3] W fun e w' => e = .returned (.int .i64 v3) ∧ w' = W) := Lib.hid fun W => by have := part_calls false t.f3 W; rw [← hv3, if_neg (fun h => h5 h.1)]; exact this
                      replace h5 := Lib.hid h5
                      clear hv3
                      gi_wp2_with ((with_reducible refine gateIn_store (t := 28) (p := 13) rfl ?_); go_loud (refine wpListIn_storeBox rfl rfl 28 (.tmp 13) (.tmp 96) rfl (tv t) [.int .i64 t.f0, .int .u64 t.f1, .int .i64 t.f2, .int .i64 t.f3] rfl rfl rfl (by kernel_rfl) (by simp [Value.oneCell']) hK2 rfl ?_); intro w3 hK3 hg3 hs3; have hb3 := hb2.grown hg3 hb2.size (fun k hk => by cases hk; exact Nat.le_refl _); have hS3 := itS_below hS hb3; have z3 := box1 hS3.2.1; have hJ3 := hJ.out _ _ _ hJD (grown_any hb3 g); obtain ⟨y0, y1, y2, y3⟩ := box4 hK3; clear z1 z2 q0 q1 q2 q3 hS hJD hg3 hs3 hb3; obtain ⟨fn, tmps, assign, body, hy, hR⟩ := hY.out D (.put (-1)) w3 p1 hJ3 (by rw [stL_put]; exact hS3); dsimp only [stepI] at hy)
                      have hK4 := hK3
                      clear hS3 hJ3 z3 hK3 hK2 hw2 hb2 hok0 y0 y1 y2 y3
                      refine hR.mono ?_
                      rintro e w5 (⟨rfl, hJ5, hS5, hk5⟩ | ⟨rfl, hJx⟩)
                      · have hK5 := hk5 _ _ hK4
                        have z5 := box1 hS5.2.1
                        clear hR hy hK4 hk5 p1
                        gi_wp2
                        refine ⟨trivial, (callsIn_wide.2 (cook_at ⟨4, 0, x, y⟩ hS5 hok1)).mono ?_⟩
                        rintro e w6 ⟨rfl, hS6, hk6, hg6⟩
                        have hJ6 := hJ.out _ _ _ hJ5 hg6
                        obtain ⟨fn, tmps, assign, body, hy, hR⟩ := hY.out _ _ w6 p2 hJ6 hS6
                        generalize (stepI (stL (l0, false) (D ++ [(It.put (-1))])) (.add ⟨4, 0, x, y⟩)).2 = v2 at hy ⊢
                        have hK6 := hk6 _ _ hK5
                        clear hS5 hJ5 z5 hg6 hk6 hK5 hok1 hS6 hJ6
                        gi_wp2
                        refine hR.mono ?_
                        rintro e w7 (⟨rfl, hJ7, hS7, hk7⟩ | ⟨rfl, hJx⟩)
                        · have hK7 := hk7 _ _ hK6
                          obtain ⟨y0, y1, y2, y3⟩ := box4 hK7
                          clear hR hy hK6 hk7 p2
                          gi_wp2
                          refine ⟨trivial, (callsIn_wide.2 (hq3.out w7)).mono ?_⟩
                          rintro e w8 ⟨rfl, rfl⟩
                          obtain ⟨fn, tmps, assign, body, hy, hR⟩ := hY.out _ _ w8 p3 hJ7 (by rw [stL_put]; exact hS7)
                          dsimp only [stepI] at hy
                          clear hS7 hJ7 y0 y1 y2 y3 hq3
                          gi_wp2
                          refine hR.mono ?_
                          rintro e w9 (⟨rfl, hJ9, hS9, hk9⟩ | ⟨rfl, hJx⟩)
                          · have z9 := box1 hS9.2.1
                            clear hR hy hK7 hk9 p3
                            gi_wp2
                            refine ⟨trivial, (callsIn_wide.2 (cook_at ⟨6, 0, x, y⟩ hS9 hok3)).mono ?_⟩
                            rintro e w10 ⟨rfl, hS10, hk10, hg10⟩
                            have hJ10 := hJ.out _ _ _ hJ9 hg10
                            obtain ⟨fn, tmps, assign, body, hy, hR⟩ := hY.out _ _ w10 p4 hJ10 hS10
                            generalize (stepI (stL (l0, false) (D ++ [(It.put (-1))] ++ [It.add ⟨4, 0, x, y⟩] ++ [It.put v3])) (.add ⟨6, 0, x, y⟩)).2 = v4 at hy ⊢
                            clear hS9 hJ9 z9 hg10 hk10 hok3 hS10 hJ10
                            gi_wp2
                            refine hR.mono ?_
                            rintro e w11 (⟨rfl, hJ11, hS11, hk11⟩ | ⟨rfl, hJx⟩)
                            · clear hR hy hk11 p4
                              gi_wp2
                              go_roundw
                              case rel => exact ⟨j + 1, _, by omega, by go_num, hend, hJ11, hS11⟩
                              case measure => simp [intOf]; omega
                            · gi_wp2
                              refine bodyPost_ret (results_none rfl _ _ _) rfl ?_
                              exact ⟨⟨_, rfl⟩, .inr ⟨_, p4, hJx⟩⟩
                          · gi_wp2
                            repeat ((first | refine ⟨(trivial : Fence.wide.fn _), ?_⟩ | refine ⟨fun _ h => (by cases h), ?_⟩); gi_wp2)
                            refine bodyPost_ret (results_none rfl _ _ _) rfl ?_
                            exact ⟨⟨_, rfl⟩, .inr ⟨_, p3, hJx⟩⟩
                        · gi_wp2
                          repeat ((first | refine ⟨(trivial : Fence.wide.fn _), ?_⟩ | refine ⟨fun _ h => (by cases h), ?_⟩); gi_wp2)
                          refine bodyPost_ret (results_none rfl _ _ _) rfl ?_
                          exact ⟨⟨_, rfl⟩, .inr ⟨_, p2, hJx⟩⟩
                      · gi_wp2
                        repeat ((first | refine ⟨(trivial : Fence.wide.fn _), ?_⟩ | refine ⟨fun _ h => (by cases h), ?_⟩); gi_wp2)
                        refine bodyPost_ret (results_none rfl _ _ _) rfl ?_
                        exact ⟨⟨_, rfl⟩, .inr ⟨_, p1, hJx⟩⟩
                · obtain rfl : j = fr.length := by omega
                  have hx2 : Hid (it = D ++ ((fr.drop (i + 1)).flatMap fun x => fr.flatMap (it3 l0 x))) := Lib.hid (by rw [hx.out, List.drop_length]; rfl)
                  clear hx
                  gi_wp2
                  go_roundw
                  case rel => exact ⟨i + 1, D, by omega, by go_num, hx2, hJD, hS⟩
                  case measure => simp [intOf]; omega
            · obtain rfl : i = fr.length := by omega
              have hx2 : Hid (D = it) := Lib.hid (by rw [hx.out, List.drop_length]; simp)
              clear hx
              gi_wp2
              go_end0
              rw [hx2.out] at hJD hS
              exact ⟨⟨_, rfl⟩, .inl ⟨hJD, hS⟩⟩
end Go.Proofs.Ytenmmeehgnkcpaa.Q
