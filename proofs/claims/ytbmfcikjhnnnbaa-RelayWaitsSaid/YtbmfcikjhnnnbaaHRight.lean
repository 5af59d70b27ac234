/- relay.Right: whether a relay may be.
   Conditions: the boxes are read as such, the mails' texts are no longer than a text may be, the numbers of 64 bits. -/
import Derived.Test.YtbmfcikjhnnnbaaHStep
import Derived.Test.YtbmfcikjhnnnbaaHBoxR
import Derived.Deep.RegionWith
namespace Go.Proofs.Ytbmfcikjhnnnbaa.Q
open Go.RowKit Go.Proofs.YtbmfcikjhnnnbaaW.PrintWords Go.Proofs.YtbmfcikjhnnnbaaW.PrintLast Go.Proofs.YtbmfcikjhnnnbaaW.PrintMore
set_option linter.unusedVariables false
set_option linter.unusedSimpArgs false
abbrev bHRight0 : Array Bool := #[false, false, false, false, false, false, false, false, false, false, false, false, false, false, false, false, false, false, false, false]
abbrev bHRight1 : Array Bool := #[true, false, false, false, false, false, false, false, false, false, false, false, false, false, false, false, false, false, false, false]
abbrev bHRight2 : Array Bool := #[true, true, false, false, false, false, false, false, false, false, false, false, false, false, false, false, false, false, false, false]
abbrev bHRight3 : Array Bool := #[true, true, true, false, false, false, false, false, false, false, false, false, false, false, false, false, false, false, false, false]
abbrev bHRight4 : Array Bool := #[true, true, true, true, false, false, false, false, false, false, false, false, false, false, false, false, false, false, false, false]
abbrev bHRight5 : Array Bool := #[true, true, true, true, true, false, false, false, false, false, false, false, false, false, false, false, false, false, false, false]
abbrev bHRight6 : Array Bool := #[true, true, true, true, true, true, false, false, false, false, false, false, false, false, false, false, false, false, false, false]
abbrev bHRight7 : Array Bool := #[true, true, true, true, true, true, true, false, false, false, false, false, false, false, false, false, false, false, false, false]
abbrev bHRight8 : Array Bool := #[true, true, true, true, true, true, true, true, false, false, false, false, false, false, false, false, false, false, false, false]
abbrev bHRight9 : Array Bool := #[true, true, true, true, true, true, true, true, true, false, false, false, false, false, false, false, false, false, false, false]
abbrev bHRight10 : Array Bool := #[true, true, true, true, true, true, true, true, true, true, false, false, false, false, false, false, false, false, false, false]
abbrev bHRight11 : Array Bool := #[true, true, true, true, true, true, true, true, true, true, true, false, false, false, false, false, false, false, false, false]
abbrev bHRight12 : Array Bool := #[true, true, true, true, true, true, true, true, true, true, true, true, false, false, false, false, false, false, false, false]
abbrev bHRight13 : Array Bool := #[true, true, true, true, true, true, true, true, true, true, true, true, true, false, false, false, false, false, false, false]
abbrev bHRight14 : Array Bool := #[true, true, true, true, true, true, true, true, true, true, true, true, true, true, false, false, false, false, false, false]
abbrev bHRight15 : Array Bool := #[true, true, true, true, true, true, true, true, true, true, true, true, true, true, true, false, false, false, false, false]
abbrev bHRight16 : Array Bool := #[true, true, true, true, true, true, true, true, true, true, true, true, true, true, true, true, false, false, false, false]
abbrev bHRight17 : Array Bool := #[true, true, true, true, true, true, true, true, true, true, true, true, true, true, true, true, true, false, false, false]
abbrev bHRight18 : Array Bool := #[true, true, true, true, true, true, true, true, true, true, true, true, true, true, true, true, true, true, false, false]
abbrev bHRight19 : Array Bool := #[true, true, true, true, true, true, true, true, true, true, true, true, true, true, true, true, true, true, true, false]
abbrev bHRight20 : Array Bool := #[true, true, true, true, true, true, true, true, true, true, true, true, true, true, true, true, true, true, true, true]
abbrev bHRight21 : Array Bool := #[true, true, true, true, true, true, true, true, true, false, true, false, false, false, false, false, false, false, false, false]
abbrev bHRight22 : Array Bool := #[true, true, true, true, true, true, true, true, true, false, true, true, false, false, false, false, false, false, false, false]
abbrev bHRight23 : Array Bool := #[true, true, true, true, true, true, true, true, true, false, true, true, false, false, false, true, false, false, false, false]
abbrev bHRight24 : Array Bool := #[true, true, true, true, true, true, true, true, true, true, true, true, false, false, false, true, false, false, false, false]
abbrev bHRight25 : Array Bool := #[true, true, true, true, true, true, true, true, true, true, true, true, true, false, false, true, false, false, false, false]
abbrev bHRight26 : Array Bool := #[true, true, true, true, true, true, true, true, true, true, true, true, true, true, false, true, false, false, false, false]

def okS (now next : Int) (l : List S57) (i : Nat) : Bool := boxB now next (rd_T57 l (i : Int)) && (decide (i = 0) || decide ((rd_T57 l ((i : Int) - 1)).f0 < (rd_T57 l (i : Int)).f0))
def rowB (now next : Int) (l : List S57) : Bool := (List.range l.length).all fun i => okS now next l i
theorem rowB_no {now next : Int} {l : List S57} (i : Nat) (hi : i < l.length) (h : okS now next l i = false) : rowB now next l = false := by
  unfold rowB
  rw [List.all_eq_false]
  exact ⟨i, List.mem_range.2 hi, by simp [h]⟩
theorem rowB_yes {now next : Int} {l : List S57} (h : ∀ i, i < l.length → okS now next l i = true) : rowB now next l = true := List.all_eq_true.2 (fun i hi => h i (List.mem_range.1 hi))
/-- What is asked of the mails that come in. -/
def wfB (l : List S57) : Prop := ∀ s ∈ l, s.f1.length ≤ 1000000 ∧ (∀ m ∈ s.f1, m.f1.size ≤ maxLen) ∧ ∀ m ∈ s.f1, 0 ≤ m.f2
theorem box2 {W : World} {g : Nat} {a b : Value} {t : Nat} (h : W.heap[g]? = some (.cells #[a, b] t (0, 0))) : W.cell? ⟨g, 0, none⟩ = some a ∧ W.cell? ⟨g, 1, none⟩ = some b := ⟨(blk_cell h 0).trans rfl, (blk_cell h 1).trans rfl⟩
set_option maxHeartbeats 4000000 in
set_option maxRecDepth 100000 in
theorem right2_calls (gr : Nat) (A0 : Option Addr) (c0 : Nat) (l0 : List S57) (now next : Int) (w : World) (hK : w.heap[gr]? = some (.cells #[.slice A0 l0.length c0, .int .u64 now, .int .u64 next] 25 (0, 0))) (hr0 : Kd.C k57 w A0 l0.length l0) (hlen : l0.length ≤ 1000000) (hwf : wfB l0) (hnow : 0 ≤ now ∧ now ≤ 18446744073709551615) :
    Calls Try.prog 33 #[.pointer (some ⟨gr, 0, none⟩)] w fun e w' => e = .returned (.bool (rowB now next l0)) ∧ Below w.heap.size w w' := by
  have hgr := blk_lt hK
  obtain ⟨k0, k1, k2⟩ := box3 hK
  go_enter Try.func33, Try.ntmps33
  go_wp2
  go_loopw [7] (fun v wr => ∃ i : Nat, i ≤ l0.length ∧ v = .int .i64 (i : Int) ∧ (∀ j, j < i → okS now next l0 j = true) ∧ Below w.heap.size w wr) (fun v _ => l0.length - (intOf v).toNat)
  case atStart => exact ⟨0, by omega, rfl, fun j h => absurd h (Nat.not_lt_zero j), Below.refl _ _⟩
  case round =>
    obtain ⟨i, hi, rfl, hok, hB⟩ := hrel
    by_cases hlt : (i : Int) < l0.length
    · obtain ⟨ad, A4, c4, eA, q0, q4, hc4, hC4⟩ := at_T57 (Kd.C_below hr0 hB) (i : Int) (by omega) hlt
      subst eA
      have hno := rowB_no (now := now) (next := next) (l := l0) i (by omega)
      have hmem : rd_T57 l0 (i : Int) ∈ l0 := by simp [rd_T57, show i < l0.length by omega]
      have hoki : okS now next l0 i = (boxB now next (rd_T57 l0 (i : Int)) && (decide (i = 0) || decide ((rd_T57 l0 ((i : Int) - 1)).f0 < (rd_T57 l0 (i : Int)).f0))) := rfl
      have hwx := hwf _ hmem
      have hprev : 0 < i → ∃ j, j + 1 = i ∧ w.cell? (ad.add (j * 2)) = some (.int .u64 (rd_T57 l0 ((i : Int) - 1)).f0) := fun h0 => by
        obtain ⟨ad', A5, c5, eA, p0, _⟩ := at_T57 hr0 ((i : Int) - 1) (by omega) (by omega)
        cases eA
        rw [show ((i : Int) - 1).toNat = i - 1 by omega] at p0
        exact ⟨i - 1, by omega, p0⟩
      generalize rd_T57 l0 (i : Int) = x at q0 q4 hc4 hC4 hoki hwx
      generalize rd_T57 l0 ((i : Int) - 1) = y at hoki hprev
      rw [Int.toNat_natCast] at q0 q4
      obtain ⟨w0, hw0⟩ : ∃ w0, wr.alloc (.cells #[.int .u64 0, .slice none 0 0] 57 (0, 0)) = w0 := ⟨_, rfl⟩
      have hb0 : Below wr.heap.size wr w0 := by rw [← hw0]; exact below_alloc (Below.refl _ _) _
      have hK0 : w0.heap[wr.heap.size]? = some (.cells #[.int .u64 0, .slice none 0 0] 57 (0, 0)) := by rw [← hw0]; exact heap_alloc_new _ _
      replace hoki := Aside0.mk hoki
      replace hno := Aside0.mk hno
      replace hok := Aside0.mk hok
      replace hprev := Aside0.mk hprev
      replace hwx := Lib.hid hwx
      clear hmem
      go_wp2_with ((with_reducible refine gate_store (t := 57) (p := 3) rfl ?_); go_loud (refine wpList_storeBox rfl rfl 57 (.tmp 3) (.tmp 11) rfl (sv x A4 c4) [.int .u64 x.f0, .slice A4 x.f1.length c4] rfl rfl rfl (by kernel_rfl) (by simp [Value.oneCell']) hK0 rfl ?_); intro w1 hK1 hg1 hs1; clear hs1; have hb1 := Aside0.mk (pw_below_grown hb0 _ hb0.size hg1 (fun k hk => by cases hk; exact Nat.le_refl _)); clear hw0 hb0 hK0 hg1 q0 q4)
      have hB1 := Aside0.mk (below_step hB hb1.out)
      have C4 := Aside0.mk (Kd.C_below hC4 hb1.out)
      have hq : Hid (∀ W, Below w1.heap.size w1 W → W.cell? ⟨gr, 0, none⟩ = some (.slice (some ad) l0.length c0) ∧ W.cell? ⟨gr, 1, none⟩ = some (.int .u64 now) ∧ W.cell? ⟨gr, 2, none⟩ = some (.int .u64 next) ∧ W.cell? ⟨wr.heap.size, 0, none⟩ = some (.int .u64 x.f0) ∧ W.cell? ⟨wr.heap.size, 1, none⟩ = some (.slice A4 x.f1.length c4)) := Lib.hid fun W hW => by
        have hBW := below_step hB1.out hW
        obtain ⟨a0, a1, a2⟩ := box3 ((hBW.block _ hgr).trans hK)
        obtain ⟨b0, b1⟩ := box2 ((hW.block _ (blk_lt hK1)).trans hK1)
        exact ⟨a0, a1, a2, b0, b1⟩
      cases hs : boxB now next x with
      | false =>
        have hf : Hid (rowB now next l0 = false) := Lib.hid (hno.out (by rw [hoki.out, hs]; rfl))
        clear hK1 hC4
        refine start_ (n := 20) (S := fun w' => w'.cell? ⟨gr, 0, none⟩ = some (.slice (some ad) l0.length c0) ∧ w'.cell? ⟨gr, 1, none⟩ = some (.int .u64 now) ∧ w'.cell? ⟨gr, 2, none⟩ = some (.int .u64 next) ∧ w'.cell? ⟨wr.heap.size, 0, none⟩ = some (.int .u64 x.f0) ∧ w'.cell? ⟨wr.heap.size, 1, none⟩ = some (.slice A4 x.f1.length c4)) (ds := []) bHRight0 (by kernel_rfl) rfl rfl ⟨(hq.out _ (Below.refl _ _).drew).1, (hq.out _ (Below.refl _ _).drew).2.1, (hq.out _ (Below.refl _ _).drew).2.2.1, (hq.out _ (Below.refl _ _).drew).2.2.2.1, (hq.out _ (Below.refl _ _).drew).2.2.2.2⟩ (fun hHeld => ?_)
        refine t_ 0 (some 12) bHRight1 hHeld (hv := by rintro w' ⟨s0, s1, s2, s3, s4⟩; go_simp; with_reducible rfl) (h := ?_)
        refine t_ 1 (some 13) bHRight2 hHeld (hv := by rintro w' ⟨s0, s1, s2, s3, s4⟩; go_simp; with_reducible rfl) (h := ?_)
        refine one_ (i := 2) (N := some 14) bHRight3 rfl rfl (by kernel_rfl) (by decide) (fun K hK => ?_)
        refine goes_ Try.func34 (by kernel_rfl) rfl #[.agg #[.slice (some ad) l0.length c0, .int .u64 now, .int .u64 next], .agg #[.int .u64 x.f0, .slice A4 x.f1.length c4]] (by rfl) rfl rfl (by simp only [List.map_toArray, List.map_cons, List.map_nil]; rfl) ?_
        with_reducible refine (box_calls _ now next x A4 c4 _ rfl (Kd.C_drew C4.out) hc4 hwx.out.1 hwx.out.2.1 hwx.out.2.2 hnow).mono ?_
        rintro e_ w3 ⟨rfl, hb⟩
        refine ⟨_, rfl, ?_⟩
        have HB3 := Aside0.mk (Below.trans (Below.refl w1.heap.size w1).drew hb)
        clear hb
        refine hK.out _ _ ⟨(hq.out _ HB3.out).1, (hq.out _ HB3.out).2.1, (hq.out _ HB3.out).2.2.1, (hq.out _ HB3.out).2.2.2.1, (hq.out _ HB3.out).2.2.2.2⟩ (fun hHeld => ?_)
        clear hK K
        refine norm_ (a' := ?_) ?_ ?_
        rotate_left
        · show Act.put _ (some 14) _ = _
          simp only [Act.put, List.setIfInBounds_toArray, List.set_cons_zero, List.set_cons_succ, i64_w, i32_w]
          rfl
        refine p_ 3 (some 15) bHRight4 ?_
        refine p_ 4 (some 16) bHRight5 ?_
        refine u_ 5 (some 17) bHRight6 ?_
        refine u_ 6 (some 18) bHRight7 ?_
        refine u_ 7 (some 19) bHRight8 ?_
        refine u_ 8 (some 20) bHRight9 ?_
        refine u_ 9 (some 21) bHRight10 ?_
        refine u_ 10 (some 22) bHRight11 ?_
        refine u_ 11 (some 23) bHRight12 ?_
        refine u_ 12 (some 24) bHRight13 ?_
        refine u_ 13 (some 25) bHRight14 ?_
        refine u_ 14 (some 26) bHRight15 ?_
        refine u_ 15 (some 27) bHRight16 ?_
        refine u_ 16 (some 28) bHRight17 ?_
        refine u_ 17 (some 29) bHRight18 ?_
        refine u_ 18 (some 30) bHRight19 ?_
        refine p_ 19 (some 31) bHRight20 ?_
        refine done_ (by kernel_rfl) ?_
        go_wp2
        go_ret
        exact ⟨by rw [hf.out]; rfl, below_step hB1.out HB3.out⟩
      | true =>
        rcases Nat.eq_zero_or_pos i with h0 | h0
        · have hok1 := Aside0.mk (fun j (hj : j < i + 1) => (show okS now next l0 j = true from by
            by_cases e : j = i
            · subst e; rw [hoki.out, hs, decide_eq_true h0]; rfl
            · exact hok.out j (by omega)))
          have hi0 : decide ((0 : Int) < (i : Int)) = false := decide_eq_false (by omega)
          have hi1 : decide (0 < i) = false := decide_eq_false (by omega)
          replace h0 := Lib.hid h0
          clear hK1 hC4
          refine start_ (n := 20) (S := fun w' => w'.cell? ⟨gr, 0, none⟩ = some (.slice (some ad) l0.length c0) ∧ w'.cell? ⟨gr, 1, none⟩ = some (.int .u64 now) ∧ w'.cell? ⟨gr, 2, none⟩ = some (.int .u64 next) ∧ w'.cell? ⟨wr.heap.size, 0, none⟩ = some (.int .u64 x.f0) ∧ w'.cell? ⟨wr.heap.size, 1, none⟩ = some (.slice A4 x.f1.length c4)) (ds := []) bHRight0 (by kernel_rfl) rfl rfl ⟨(hq.out _ (Below.refl _ _).drew).1, (hq.out _ (Below.refl _ _).drew).2.1, (hq.out _ (Below.refl _ _).drew).2.2.1, (hq.out _ (Below.refl _ _).drew).2.2.2.1, (hq.out _ (Below.refl _ _).drew).2.2.2.2⟩ (fun hHeld => ?_)
          refine t_ 0 (some 12) bHRight1 hHeld (hv := by rintro w' ⟨s0, s1, s2, s3, s4⟩; go_simp; with_reducible rfl) (h := ?_)
          refine t_ 1 (some 13) bHRight2 hHeld (hv := by rintro w' ⟨s0, s1, s2, s3, s4⟩; go_simp; with_reducible rfl) (h := ?_)
          refine one_ (i := 2) (N := some 14) bHRight3 rfl rfl (by kernel_rfl) (by decide) (fun K hK => ?_)
          refine goes_ Try.func34 (by kernel_rfl) rfl #[.agg #[.slice (some ad) l0.length c0, .int .u64 now, .int .u64 next], .agg #[.int .u64 x.f0, .slice A4 x.f1.length c4]] (by rfl) rfl rfl (by simp only [List.map_toArray, List.map_cons, List.map_nil]; rfl) ?_
          with_reducible refine (box_calls _ now next x A4 c4 _ rfl (Kd.C_drew C4.out) hc4 hwx.out.1 hwx.out.2.1 hwx.out.2.2 hnow).mono ?_
          rintro e_ w3 ⟨rfl, hb⟩
          refine ⟨_, rfl, ?_⟩
          have HB3 := Aside0.mk (Below.trans (Below.refl w1.heap.size w1).drew hb)
          clear hb
          refine hK.out _ _ ⟨(hq.out _ HB3.out).1, (hq.out _ HB3.out).2.1, (hq.out _ HB3.out).2.2.1, (hq.out _ HB3.out).2.2.2.1, (hq.out _ HB3.out).2.2.2.2⟩ (fun hHeld => ?_)
          clear hK K
          refine norm_ (a' := ?_) ?_ ?_
          rotate_left
          · show Act.put _ (some 14) _ = _
            simp only [Act.put, List.setIfInBounds_toArray, List.set_cons_zero, List.set_cons_succ, i64_w, i32_w]
            rfl
          refine p_ 3 (some 15) bHRight4 ?_
          refine p_ 4 (some 16) bHRight5 ?_
          refine p_ 5 (some 17) bHRight6 ?_
          refine p_ 6 (some 18) bHRight7 ?_
          refine p_ 7 (some 19) bHRight8 ?_
          refine u_ 8 (some 20) bHRight9 ?_
          refine u_ 9 (some 21) bHRight10 ?_
          refine u_ 10 (some 22) bHRight11 ?_
          refine u_ 11 (some 23) bHRight12 ?_
          refine u_ 12 (some 24) bHRight13 ?_
          refine u_ 13 (some 25) bHRight14 ?_
          refine u_ 14 (some 26) bHRight15 ?_
          refine u_ 15 (some 27) bHRight16 ?_
          refine u_ 16 (some 28) bHRight17 ?_
          refine u_ 17 (some 29) bHRight18 ?_
          refine p_ 18 (some 30) bHRight19 ?_
          refine p_ 19 (some 31) bHRight20 ?_
          refine done_ (by kernel_rfl) ?_
          go_wp2
          go_roundw
          case rel => exact ⟨i + 1, by omega, by go_num, hok1.out, below_step hB1.out HB3.out⟩
          case measure => simp [intOf]; omega
        · have hi0 : decide ((0 : Int) < (i : Int)) = true := decide_eq_true (by omega)
          have hi1 : decide (0 < i) = true := decide_eq_true h0
          obtain ⟨j, hj, hpj⟩ := hprev.out h0
          have hwi : wrap64 ((i : Int) - 1) = (j : Int) := (wrap_in' ((i : Int) - 1) (by omega) (by omega)).trans (by omega)
          have hj2 : (j : Int) < l0.length := by omega
          have hq5 := hq
          replace hq : Hid (∀ W, Below w1.heap.size w1 W → W.cell? ⟨gr, 0, none⟩ = some (.slice (some ad) l0.length c0) ∧ W.cell? ⟨gr, 1, none⟩ = some (.int .u64 now) ∧ W.cell? ⟨gr, 2, none⟩ = some (.int .u64 next) ∧ W.cell? ⟨wr.heap.size, 0, none⟩ = some (.int .u64 x.f0) ∧ W.cell? ⟨wr.heap.size, 1, none⟩ = some (.slice A4 x.f1.length c4) ∧ W.cell? (ad.add (j * 2)) = some (.int .u64 y.f0)) := Lib.hid fun W hW => by
            obtain ⟨a0, a1, a2, a3, a4⟩ := hq5.out W hW
            exact ⟨a0, a1, a2, a3, a4, (Below.cell (p := ad.add (j * 2)) (below_step hB1.out hW) (block_lt_of_cell hpj)).trans hpj⟩
          replace hj := Lib.hid hj
          clear hpj hq5
          by_cases hp : y.f0 < x.f0
          · have e3i : decide (x.f0 ≤ y.f0) = false := decide_eq_false (by omega)
            have hok1 := Aside0.mk (fun j' (hj' : j' < i + 1) => (show okS now next l0 j' = true from by
              by_cases e : j' = i
              · subst e; rw [hoki.out, hs, decide_eq_true hp, Bool.or_true]; rfl
              · exact hok.out j' (by omega)))
            clear hK1 hC4
            refine start_ (n := 20) (S := fun w' => w'.cell? ⟨gr, 0, none⟩ = some (.slice (some ad) l0.length c0) ∧ w'.cell? ⟨gr, 1, none⟩ = some (.int .u64 now) ∧ w'.cell? ⟨gr, 2, none⟩ = some (.int .u64 next) ∧ w'.cell? ⟨wr.heap.size, 0, none⟩ = some (.int .u64 x.f0) ∧ w'.cell? ⟨wr.heap.size, 1, none⟩ = some (.slice A4 x.f1.length c4) ∧ w'.cell? (ad.add (j * 2)) = some (.int .u64 y.f0)) (ds := []) bHRight0 (by kernel_rfl) rfl rfl ⟨(hq.out _ (Below.refl _ _).drew).1, (hq.out _ (Below.refl _ _).drew).2.1, (hq.out _ (Below.refl _ _).drew).2.2.1, (hq.out _ (Below.refl _ _).drew).2.2.2.1, (hq.out _ (Below.refl _ _).drew).2.2.2.2.1, (hq.out _ (Below.refl _ _).drew).2.2.2.2.2⟩ (fun hHeld => ?_)
            refine t_ 0 (some 12) bHRight1 hHeld (hv := by rintro w' ⟨s0, s1, s2, s3, s4, s5⟩; go_simp; with_reducible rfl) (h := ?_)
            refine t_ 1 (some 13) bHRight2 hHeld (hv := by rintro w' ⟨s0, s1, s2, s3, s4, s5⟩; go_simp; with_reducible rfl) (h := ?_)
            refine one_ (i := 2) (N := some 14) bHRight3 rfl rfl (by kernel_rfl) (by decide) (fun K hK => ?_)
            refine goes_ Try.func34 (by kernel_rfl) rfl #[.agg #[.slice (some ad) l0.length c0, .int .u64 now, .int .u64 next], .agg #[.int .u64 x.f0, .slice A4 x.f1.length c4]] (by rfl) rfl rfl (by simp only [List.map_toArray, List.map_cons, List.map_nil]; rfl) ?_
            with_reducible refine (box_calls _ now next x A4 c4 _ rfl (Kd.C_drew C4.out) hc4 hwx.out.1 hwx.out.2.1 hwx.out.2.2 hnow).mono ?_
            rintro e_ w3 ⟨rfl, hb⟩
            refine ⟨_, rfl, ?_⟩
            have HB3 := Aside0.mk (Below.trans (Below.refl w1.heap.size w1).drew hb)
            clear hb
            refine hK.out _ _ ⟨(hq.out _ HB3.out).1, (hq.out _ HB3.out).2.1, (hq.out _ HB3.out).2.2.1, (hq.out _ HB3.out).2.2.2.1, (hq.out _ HB3.out).2.2.2.2.1, (hq.out _ HB3.out).2.2.2.2.2⟩ (fun hHeld => ?_)
            clear hK K
            refine norm_ (a' := ?_) ?_ ?_
            rotate_left
            · show Act.put _ (some 14) _ = _
              simp only [Act.put, List.setIfInBounds_toArray, List.set_cons_zero, List.set_cons_succ, i64_w, i32_w]
              rfl
            refine p_ 3 (some 15) bHRight4 ?_
            refine p_ 4 (some 16) bHRight5 ?_
            refine p_ 5 (some 17) bHRight6 ?_
            refine p_ 6 (some 18) bHRight7 ?_
            refine p_ 7 (some 19) bHRight8 ?_
            refine p_ 8 (some 20) bHRight9 ?_
            refine p_ 10 (some 22) bHRight21 ?_
            refine p_ 11 (some 23) bHRight22 ?_
            refine p_ 15 (some 27) bHRight23 ?_
            refine t_ 9 (some 21) bHRight24 hHeld (hv := by rintro w' ⟨s0, s1, s2, s3, s4, s5⟩; go_simp; with_reducible rfl) (h := ?_)
            refine p_ 12 (some 24) bHRight25 ?_
            refine p_ 13 (some 25) bHRight26 ?_
            refine t_ 14 (some 26) bHRight16 hHeld (hv := by rintro w' ⟨s0, s1, s2, s3, s4, s5⟩; go_simp; with_reducible rfl) (h := ?_)
            refine t_ 16 (some 28) bHRight17 hHeld (hv := by rintro w' ⟨s0, s1, s2, s3, s4, s5⟩; go_simp; with_reducible rfl) (h := ?_)
            refine p_ 17 (some 29) bHRight18 ?_
            refine p_ 18 (some 30) bHRight19 ?_
            refine p_ 19 (some 31) bHRight20 ?_
            refine done_ (by kernel_rfl) ?_
            go_wp2
            go_roundw
            case rel => exact ⟨i + 1, by omega, by go_num, hok1.out, below_step hB1.out HB3.out⟩
            case measure => simp [intOf]; omega
          · have e3i : decide (x.f0 ≤ y.f0) = true := decide_eq_true (by omega)
            have hf : Hid (rowB now next l0 = false) := Lib.hid (hno.out (by rw [hoki.out, hs, decide_eq_false hp, decide_eq_false (show ¬ (i = 0) by omega)]; rfl))
            clear hK1 hC4
            refine start_ (n := 20) (S := fun w' => w'.cell? ⟨gr, 0, none⟩ = some (.slice (some ad) l0.length c0) ∧ w'.cell? ⟨gr, 1, none⟩ = some (.int .u64 now) ∧ w'.cell? ⟨gr, 2, none⟩ = some (.int .u64 next) ∧ w'.cell? ⟨wr.heap.size, 0, none⟩ = some (.int .u64 x.f0) ∧ w'.cell? ⟨wr.heap.size, 1, none⟩ = some (.slice A4 x.f1.length c4) ∧ w'.cell? (ad.add (j * 2)) = some (.int .u64 y.f0)) (ds := []) bHRight0 (by kernel_rfl) rfl rfl ⟨(hq.out _ (Below.refl _ _).drew).1, (hq.out _ (Below.refl _ _).drew).2.1, (hq.out _ (Below.refl _ _).drew).2.2.1, (hq.out _ (Below.refl _ _).drew).2.2.2.1, (hq.out _ (Below.refl _ _).drew).2.2.2.2.1, (hq.out _ (Below.refl _ _).drew).2.2.2.2.2⟩ (fun hHeld => ?_)
            refine t_ 0 (some 12) bHRight1 hHeld (hv := by rintro w' ⟨s0, s1, s2, s3, s4, s5⟩; go_simp; with_reducible rfl) (h := ?_)
            refine t_ 1 (some 13) bHRight2 hHeld (hv := by rintro w' ⟨s0, s1, s2, s3, s4, s5⟩; go_simp; with_reducible rfl) (h := ?_)
            refine one_ (i := 2) (N := some 14) bHRight3 rfl rfl (by kernel_rfl) (by decide) (fun K hK => ?_)
            refine goes_ Try.func34 (by kernel_rfl) rfl #[.agg #[.slice (some ad) l0.length c0, .int .u64 now, .int .u64 next], .agg #[.int .u64 x.f0, .slice A4 x.f1.length c4]] (by rfl) rfl rfl (by simp only [List.map_toArray, List.map_cons, List.map_nil]; rfl) ?_
            with_reducible refine (box_calls _ now next x A4 c4 _ rfl (Kd.C_drew C4.out) hc4 hwx.out.1 hwx.out.2.1 hwx.out.2.2 hnow).mono ?_
            rintro e_ w3 ⟨rfl, hb⟩
            refine ⟨_, rfl, ?_⟩
            have HB3 := Aside0.mk (Below.trans (Below.refl w1.heap.size w1).drew hb)
            clear hb
            refine hK.out _ _ ⟨(hq.out _ HB3.out).1, (hq.out _ HB3.out).2.1, (hq.out _ HB3.out).2.2.1, (hq.out _ HB3.out).2.2.2.1, (hq.out _ HB3.out).2.2.2.2.1, (hq.out _ HB3.out).2.2.2.2.2⟩ (fun hHeld => ?_)
            clear hK K
            refine norm_ (a' := ?_) ?_ ?_
            rotate_left
            · show Act.put _ (some 14) _ = _
              simp only [Act.put, List.setIfInBounds_toArray, List.set_cons_zero, List.set_cons_succ, i64_w, i32_w]
              rfl
            refine p_ 3 (some 15) bHRight4 ?_
            refine p_ 4 (some 16) bHRight5 ?_
            refine p_ 5 (some 17) bHRight6 ?_
            refine p_ 6 (some 18) bHRight7 ?_
            refine p_ 7 (some 19) bHRight8 ?_
            refine p_ 8 (some 20) bHRight9 ?_
            refine p_ 10 (some 22) bHRight21 ?_
            refine p_ 11 (some 23) bHRight22 ?_
            refine p_ 15 (some 27) bHRight23 ?_
            refine t_ 9 (some 21) bHRight24 hHeld (hv := by rintro w' ⟨s0, s1, s2, s3, s4, s5⟩; go_simp; with_reducible rfl) (h := ?_)
            refine p_ 12 (some 24) bHRight25 ?_
            refine p_ 13 (some 25) bHRight26 ?_
            refine t_ 14 (some 26) bHRight16 hHeld (hv := by rintro w' ⟨s0, s1, s2, s3, s4, s5⟩; go_simp; with_reducible rfl) (h := ?_)
            refine t_ 16 (some 28) bHRight17 hHeld (hv := by rintro w' ⟨s0, s1, s2, s3, s4, s5⟩; go_simp; with_reducible rfl) (h := ?_)
            refine p_ 17 (some 29) bHRight18 ?_
            refine p_ 18 (some 30) bHRight19 ?_
            refine p_ 19 (some 31) bHRight20 ?_
            refine done_ (by kernel_rfl) ?_
            go_wp2
            go_ret
            exact ⟨by rw [hf.out]; rfl, below_step hB1.out HB3.out⟩
    · obtain rfl : i = l0.length := by omega
      have hyes := Lib.hid (rowB_yes hok)
      go_wp2
      go_ret
      exact ⟨by rw [hyes.out]; rfl, hB⟩
end Go.Proofs.Ytbmfcikjhnnnbaa.Q
