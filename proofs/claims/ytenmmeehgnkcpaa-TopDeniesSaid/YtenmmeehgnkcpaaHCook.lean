/- A list at work: cook.add, part; a loop over a function, its call left open.
   Conditions: the list is read as terms whose numbers are of 64 bits. -/
import Derived.Test.YtenmmeehgnkcpaaHStep
import Derived.Test.YtenmmeehgnkcpaaHAdd
import Derived.Test.YtenmmeehgnkcpaaHRange
namespace Go.Proofs.Ytenmmeehgnkcpaa.Q
open Go.RowKit Go.Proofs.YtenmmeehgnkcpaaW.PrintWords Go.Proofs.YtenmmeehgnkcpaaW.PrintLast Go.Proofs.YtenmmeehgnkcpaaW.PrintMore
set_option linter.unusedVariables false
set_option linter.unusedSimpArgs false
abbrev bHCook0 : Array Bool := #[false, false, false, false, false, false, false, false, false, false, false, false, false]
abbrev bHCook1 : Array Bool := #[true, false, false, false, false, false, false, false, false, false, false, false, false]
abbrev bHCook2 : Array Bool := #[true, true, false, false, false, false, false, false, false, false, false, false, false]
abbrev bHCook3 : Array Bool := #[true, true, true, false, false, false, false, false, false, false, false, false, false]
abbrev bHCook4 : Array Bool := #[true, true, true, true, false, false, false, false, false, false, false, false, false]
abbrev bHCook5 : Array Bool := #[true, true, true, true, true, false, false, false, false, false, false, false, false]
abbrev bHCook6 : Array Bool := #[true, true, true, true, true, true, false, false, false, false, false, false, false]
abbrev bHCook7 : Array Bool := #[true, true, true, true, true, true, true, false, false, false, false, false, false]
abbrev bHCook8 : Array Bool := #[true, true, true, true, true, true, true, true, false, false, false, false, false]
abbrev bHCook9 : Array Bool := #[true, true, true, true, true, true, true, true, true, false, false, false, false]
abbrev bHCook10 : Array Bool := #[true, true, true, true, true, true, true, true, true, true, false, false, false]
abbrev bHCook11 : Array Bool := #[true, true, true, true, true, true, true, true, true, true, true, false, false]
abbrev bHCook12 : Array Bool := #[true, true, true, true, true, true, true, true, true, true, true, true, false]
abbrev bHCook13 : Array Bool := #[true, true, true, true, true, true, true, true, true, true, true, true, true]

/-- A write into a block that holds no number leaves a row of terms. -/
theorem C28_box {W W' : World} {A : Option Addr} {n : Nat} {l : List S28} {g t : Nat} {cur : Array Value} (hC : k28.C W A n l) (hg : W.heap[g]? = some (.cells cur t (0, 0))) (hv : ∀ v ∈ cur, ∀ k i, v ≠ .int k i) (hb : W.grownBy W' (some g)) : k28.C W' A n l := by
  refine ⟨hC.1, hC.2.1, fun hn => ?_⟩
  obtain ⟨ad, e, hc⟩ := hC.2.2 hn
  refine ⟨ad, e, fun j p hj => ?_⟩
  obtain ⟨c, hs, hr, hcell⟩ := hc j p hj
  obtain rfl := k28_open hr
  refine ⟨_, hs, k28_mk _ _, fun i u hu => ?_⟩
  have h := hcell i u hu
  have hint : ∃ k z, u = .int k z := by
    match i, hu with
    | 0, hu => exact ⟨_, _, (Option.some.inj hu).symm⟩
    | 1, hu => exact ⟨_, _, (Option.some.inj hu).symm⟩
    | 2, hu => exact ⟨_, _, (Option.some.inj hu).symm⟩
    | 3, hu => exact ⟨_, _, (Option.some.inj hu).symm⟩
  obtain ⟨k, z, rfl⟩ := hint
  generalize ad.add (j * k28.sz + i) = q at h ⊢
  have hne : q.block ≠ g := fun e => by
    unfold World.cell? at h
    rw [e, hg] at h
    have h' : (if q.spot.isSome = true then none else cur[q.off]?) = some (.int k z) := h
    by_cases hs : q.spot.isSome = true
    · rw [if_pos hs] at h'; cases h'
    · rw [if_neg hs] at h'
      exact hv _ (Array.mem_of_getElem? h') k z rfl
  have hlt : q.block < W.heap.size := by
    rcases Nat.lt_or_ge q.block W.heap.size with hl | hl
    · exact hl
    · unfold World.cell? at h
      rw [Array.getElem?_eq_none (by omega)] at h
      cases h
  unfold World.cell? at h ⊢
  rw [hb.block _ hlt (fun e => hne (by injection e))]
  exact h
/-- A list at work: its terms (the first ones handed in, or a row of its own), and whether there was no room. -/
def CookB (W : World) (g : Nat) (A0 : Option Addr) (s : List S28 × Bool) : Prop := ∃ A c, W.heap[g]? = some (.cells #[.slice A s.1.length c, .bool s.2] 89 (0, 0)) ∧ s.1.length ≤ c ∧ k28.C W A s.1.length s.1 ∧ (A = A0 ∨ Row28 W A)
/-- A term more: the list then, and its place. -/
def cookA (s : List S28 × Bool) (t : S28) : (List S28 × Bool) × Int := if (addR s.1 t).2.2 = 0 then (((addR s.1 t).1, s.2), (addR s.1 t).2.1) else ((s.1, true), -1)
theorem grown_of_box {g : Nat} {w w1 w2 : World} (h1 : Below w.heap.size w w1) (h2 : w1.grownBy w2 (some g)) : w.grownBy w2 (some g) :=
  ⟨h2.os.trans h1.os, h2.tape.trans h1.tape, h2.output.trans h1.output, Nat.le_trans h1.size h2.size, fun k hk hne => (h2.block k (Nat.lt_of_lt_of_le hk h1.size) hne).trans (h1.block k hk)⟩
theorem row28_kept {W W' : World} {A : Option Addr} {g t : Nat} {cur : Array Value} (h : Row28 W A) (hg : W.heap[g]? = some (.cells cur t (0, 0))) (ht : t ≠ 28) (hb : W.grownBy W' (some g)) : Row28 W' A := fun ad e => by
  obtain ⟨cu, hc⟩ := h ad e
  refine ⟨cu, (hb.block _ (blk_lt hc) (fun e2 => ?_)).trans hc⟩
  injection e2 with e2
  rw [e2, hg] at hc
  injection hc with hc
  injection hc with _ hc
  exact ht hc
theorem addR_q (l : List S28) (t : S28) : (addR l t).2.2 = 0 ∨ (addR l t).2.2 = 1 ∨ (addR l t).2.2 = 6 := by
  unfold addR
  split
  · split
    · split
      · exact .inl rfl
      · split
        · exact .inr (.inr rfl)
        · exact .inl rfl
    · exact .inr (.inl rfl)
  · exact .inr (.inl rfl)
theorem part_calls (b : Bool) (i : Int) (w : World) : Calls Try.prog 69 #[.bool b, .int .i64 i] w fun e w' => e = .returned (.int .i64 (if b = true then i else -1)) ∧ w' = w := by
  cases b with
  | true =>
    go_enter Try.func69, Try.ntmps69
    go_wp2
    go_ret
    exact ⟨rfl, rfl⟩
  | false =>
    go_enter Try.func69, Try.ntmps69
    go_wp2
    go_ret
    exact ⟨rfl, rfl⟩
set_option maxHeartbeats 2000000 in
set_option maxRecDepth 100000 in
theorem cook_calls (g : Nat) (A0 : Option Addr) (s : List S28 × Bool) (t : S28) (w : World) (h : CookB w g A0 s) (hlen : s.1.length ≤ 1000) (hwf : ∀ t ∈ s.1, wfT t) :
    Calls Try.prog 68 #[.pointer (some ⟨g, 0, none⟩), tv t] w fun e w' => e = .returned (.int .i64 (cookA s t).2) ∧ CookB w' g A0 (cookA s t).1 ∧ w.grownBy w' (some g) := by
  obtain ⟨A, c, hbox, hc, hC, hrow0⟩ := h
  obtain ⟨w1, hw1⟩ : ∃ w1, w.alloc (.cells #[.int .i64 t.f0, .int .u64 t.f1, .int .i64 t.f2, .int .i64 t.f3] 28 (0, 0)) = w1 := ⟨_, rfl⟩
  have hb1 : Below w.heap.size w w1 := by rw [← hw1]; exact below_alloc (Below.refl _ _) _
  have hK1 : w1.heap[w.heap.size]? = some (.cells #[.int .i64 t.f0, .int .u64 t.f1, .int .i64 t.f2, .int .i64 t.f3] 28 (0, 0)) := by rw [← hw1]; exact heap_alloc_new _ _
  have hbox1 := (hb1.block _ (blk_lt hbox)).trans hbox
  have hcall : Hid (∀ W, Below w1.heap.size w1 W → Calls Try.prog 14 #[.slice A s.1.length c, tv t] W fun e w' => AddE A s.1 t e w' ∧ Below W.heap.size W w') := Lib.hid fun W hW => add_calls A c s.1 t W (Kd.C_below (Kd.C_below hC hb1) hW) hc (by omega) hwf
  have hq : Hid (∀ W, Below w1.heap.size w1 W → W.cell? ⟨g, 0, none⟩ = some (.slice A s.1.length c) ∧ W.cell? ⟨w.heap.size, 0, none⟩ = some (.int .i64 t.f0) ∧ W.cell? ⟨w.heap.size, 1, none⟩ = some (.int .u64 t.f1) ∧ W.cell? ⟨w.heap.size, 2, none⟩ = some (.int .i64 t.f2) ∧ W.cell? ⟨w.heap.size, 3, none⟩ = some (.int .i64 t.f3)) :=
    Lib.hid fun W hW => ⟨(box2 ((hW.block _ (blk_lt hbox1)).trans hbox1)).1, box4 ((hW.block _ (blk_lt hK1)).trans hK1)⟩
  have hkeep : Hid (∀ W, Below w1.heap.size w1 W → k28.C W A s.1.length s.1 ∧ (A = A0 ∨ Row28 W A) ∧ W.heap[g]? = some (.cells #[.slice A s.1.length c, .bool s.2] 89 (0, 0)) ∧ Below w.heap.size w W) := Lib.hid fun W hW =>
    ⟨Kd.C_below (Kd.C_below hC hb1) hW, hrow0.imp id (fun h ad e => by obtain ⟨cu, hcu⟩ := h ad e; exact ⟨cu, (hW.block _ (Nat.lt_of_lt_of_le (blk_lt hcu) hb1.size)).trans ((hb1.block _ (blk_lt hcu)).trans hcu)⟩), (hW.block _ (blk_lt hbox1)).trans hbox1, below_step hb1 hW⟩
  clear hK1 hbox hbox1 hC hrow0
  go_enter Try.func68, Try.ntmps68
  go_wp2_with fail
  refine start_ (n := 13) (S := fun w' => w'.cell? ⟨g, 0, none⟩ = some (.slice A s.1.length c) ∧ w'.cell? ⟨w.heap.size, 0, none⟩ = some (.int .i64 t.f0) ∧ w'.cell? ⟨w.heap.size, 1, none⟩ = some (.int .u64 t.f1) ∧ w'.cell? ⟨w.heap.size, 2, none⟩ = some (.int .i64 t.f2) ∧ w'.cell? ⟨w.heap.size, 3, none⟩ = some (.int .i64 t.f3)) (ds := []) bHCook0 (by kernel_rfl) rfl rfl ⟨(hq.out _ (Below.refl w1.heap.size w1).drew).1, (hq.out _ (Below.refl w1.heap.size w1).drew).2.1, (hq.out _ (Below.refl w1.heap.size w1).drew).2.2.1, (hq.out _ (Below.refl w1.heap.size w1).drew).2.2.2.1, (hq.out _ (Below.refl w1.heap.size w1).drew).2.2.2.2⟩ (fun hHeld => ?_)
  refine p_ 0 (some 9) bHCook1 ?_
  refine p_ 1 (some 10) bHCook2 ?_
  refine p_ 2 (some 11) bHCook3 ?_
  refine t_ 3 (some 12) bHCook4 hHeld (hv := by rintro w' ⟨s0, s1, s2, s3, s4⟩; go_simp; with_reducible rfl) (h := ?_)
  refine t_ 4 (some 13) bHCook5 hHeld (hv := by rintro w' ⟨s0, s1, s2, s3, s4⟩; go_simp; with_reducible rfl) (h := ?_)
  refine one_ (i := 5) (N := some 14) bHCook6 rfl rfl (by kernel_rfl) (by decide) (fun K hK => ?_)
  refine goes_ Try.func14 (by kernel_rfl) rfl #[.slice A s.1.length c, tv t] (by rfl) rfl rfl (by simp only [List.map_toArray, List.map_cons, List.map_nil]; rfl) ?_
  with_reducible refine (hcall.out _ (Below.refl w1.heap.size w1).drew).mono ?_
  rintro e_ w3 ⟨⟨B, d, m, i, q, hadd, rfl, hd, hCB, hrow⟩, hb3⟩
  refine ⟨_, rfl, ?_⟩
  have hb3 := below_step (Below.refl w1.heap.size w1).drew hb3
  refine hK.out _ _ ⟨(hq.out _ hb3).1, (hq.out _ hb3).2.1, (hq.out _ hb3).2.2.1, (hq.out _ hb3).2.2.2.1, (hq.out _ hb3).2.2.2.2⟩ (fun hHeld => ?_)
  clear hK K
  refine norm_ (a' := ?_) ?_ ?_
  rotate_left
  · show Act.put _ (some 14) _ = _
    simp only [Act.put, List.setIfInBounds_toArray, List.set_cons_zero, List.set_cons_succ, i64_w, i32_w]
    rfl
  refine p_ 6 (some 8) bHCook7 ?_
  refine p_ 7 (some 15) bHCook8 ?_
  refine p_ 8 (some 16) bHCook9 ?_
  refine p_ 9 (some 17) bHCook10 ?_
  refine p_ 10 (some 5) bHCook11 ?_
  refine p_ 11 (some 6) bHCook12 ?_
  refine p_ 12 (some 7) bHCook13 ?_
  refine done_ (by kernel_rfl) ?_
  obtain ⟨hCA, hrA, hbox3, hB3⟩ := hkeep.out w3 hb3
  have hvals : ∀ v ∈ (#[.slice A s.1.length c, .bool s.2] : Array Value), ∀ k i, v ≠ .int k i := by intro v hv k i e; subst e; simp at hv
  have hq3 := addR_q s.1 t
  rw [hadd] at hq3
  have hz := (box2 hbox3).1
  clear hcall hq hkeep hb3
  by_cases h0 : q = 0
  · subst h0
    have hans : cookA s t = ((m, s.2), i) := by unfold cookA; rw [hadd]; rfl
    clear hq3
    go_wp2_with ((with_reducible refine gate_store (t := 23) (p := 26) rfl ?_); go_loud (refine wpList_storeField rfl rfl 23 (.tmp 26) (.tmp 24) rfl 0 (.slice B m.length d) #[.slice B m.length d, .bool s.2] rfl rfl rfl (by kernel_rfl) rfl hbox3 (Nat.le_of_ble_eq_true rfl) rfl ?_); intro w4 hK4 hg4 hs4)
    have hCC := C28_box hCB hbox3 hvals hg4
    have hrr : B = A0 ∨ Row28 w4 B := by
      rcases hrow with rfl | h
      · exact hrA.imp id fun h => row28_kept h hbox3 (by decide) hg4
      · exact .inr (row28_kept h hbox3 (by decide) hg4)
    have hgr := grown_of_box hB3 hg4
    go_ret
    rw [hans]
    exact ⟨rfl, ⟨B, d, hK4, hd, hCC, hrr⟩, hgr⟩
  · have hans : cookA s t = ((s.1, true), -1) := by unfold cookA; rw [hadd]; exact if_neg h0
    have hq1 : q = 1 ∨ q = 6 := hq3.resolve_left h0
    have hfin : ∀ w4, w4.heap[g]? = some (.cells #[.slice A s.1.length c, .bool true] 89 (0, 0)) → w3.grownBy w4 (some g) → CookB w4 g A0 (s.1, true) ∧ w.grownBy w4 (some g) := fun w4 hK4 hg4 =>
      ⟨⟨A, c, hK4, hc, C28_box hCA hbox3 hvals hg4, hrA.imp id fun h => row28_kept h hbox3 (by decide) hg4⟩, grown_of_box hB3 hg4⟩
    replace hfin := Lib.hid hfin
    rcases hq1 with rfl | rfl
    · go_wp2_with ((with_reducible refine gate_store (t := 4) (p := 22) rfl ?_); go_loud (refine wpList_storeField rfl rfl 4 (.tmp 22) (.const (.bool true)) rfl 1 (.bool true) #[.slice A s.1.length c, .bool true] rfl rfl rfl (by kernel_rfl) rfl hbox3 (Nat.le_of_ble_eq_true rfl) rfl ?_); intro w4 hK4 hg4 hs4)
      go_ret
      exact ⟨rfl, hfin.out w4 hK4 hg4⟩
    · go_wp2_with ((with_reducible refine gate_store (t := 4) (p := 22) rfl ?_); go_loud (refine wpList_storeField rfl rfl 4 (.tmp 22) (.const (.bool true)) rfl 1 (.bool true) #[.slice A s.1.length c, .bool true] rfl rfl rfl (by kernel_rfl) rfl hbox3 (Nat.le_of_ble_eq_true rfl) rfl ?_); intro w4 hK4 hg4 hs4)
      go_ret
      exact ⟨rfl, hfin.out w4 hK4 hg4⟩
end Go.Proofs.Ytenmmeehgnkcpaa.Q
