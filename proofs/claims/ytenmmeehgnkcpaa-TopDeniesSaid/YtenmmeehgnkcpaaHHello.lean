/- demurraltop's hello: the terms of a first text; its add.
   Conditions: the names are of 64 bits. -/
import Derived.Test.YtenmmeehgnkcpaaHAdd
namespace Go.Proofs.Ytenmmeehgnkcpaa.Q
open Go.RowKit Go.Proofs.YtenmmeehgnkcpaaW.PrintWords Go.Proofs.YtenmmeehgnkcpaaW.PrintLast Go.Proofs.YtenmmeehgnkcpaaW.PrintMore
set_option linter.unusedVariables false
set_option linter.unusedSimpArgs false

/-- A write into a block that holds no number leaves a row of terms. -/
theorem C28_put {W W' : World} {A : Option Addr} {n : Nat} {l : List S28} {g : Nat} {v : Value} (hC : k28.C W A n l) (hg : W.heap[g]? = some (.cells #[v] 23 (0, 0))) (hv : ∀ k i, v ≠ .int k i) (hb : W.grownBy W' (some g)) : k28.C W' A n l := by
  refine ⟨hC.1, hC.2.1, fun hn => ?_⟩
  obtain ⟨ad, e, hc⟩ := hC.2.2 hn
  refine ⟨ad, e, fun j p hj => ?_⟩
  obtain ⟨c, hs, hr, hcell⟩ := hc j p hj
  obtain rfl := k28_open hr
  refine ⟨_, hs, k28_mk _ _, fun i u hu => ?_⟩
  have h := hcell i u hu
  have hint : ∃ k z, u = .int k z := by
    match i, hu with
    | 0, hu => exact ⟨_, _, (Option.some.inj hu).symm⟩
    | 1, hu => exact ⟨_, _, (Option.some.inj hu).symm⟩
    | 2, hu => exact ⟨_, _, (Option.some.inj hu).symm⟩
    | 3, hu => exact ⟨_, _, (Option.some.inj hu).symm⟩
  obtain ⟨k, z, rfl⟩ := hint
  generalize ad.add (j * k28.sz + i) = q at h ⊢
  have hne : q.block ≠ g := fun e => by
    unfold World.cell? at h
    rw [e, hg] at h
    simp at h
    obtain ⟨_, h⟩ := h
    rcases hq : q.off with _ | o
    · rw [hq] at h
      exact hv k z (by simpa using h)
    · rw [hq] at h
      simp at h
  have hlt : q.block < W.heap.size := by
    rcases Nat.lt_or_ge q.block W.heap.size with hl | hl
    · exact hl
    · unfold World.cell? at h
      rw [Array.getElem?_eq_none (by omega)] at h
      cases h
  unfold World.cell? at h ⊢
  rw [hb.block _ hlt (fun e => hne (by injection e))]
  exact h
theorem add_ok {l m : List S28} {t : S28} {i : Int} (h : addR l t = (m, i, 0)) {e : Ending} {w : World} {A : Option Addr} (hE : AddE A l t e w) : ∃ B d, e = .returned (.tuple #[.slice B m.length d, .int .i64 i, .int .i64 0]) ∧ m.length ≤ d ∧ k28.C w B m.length m := by
  obtain ⟨B, d, m', i', q', h1, h2, h3, h4, _⟩ := hE
  rw [h] at h1
  injection h1 with e1 e2
  injection e2 with e2 e3
  subst e1 e2 e3
  exact ⟨B, d, h2, h3, h4⟩
set_option maxHeartbeats 2000000 in
set_option maxRecDepth 100000 in
theorem adder_calls (gl : Nat) (A : Option Addr) (c : Nat) (l m : List S28) (t : S28) (i : Int) (w : World) (base : Nat) (hbase : base ≤ gl) (hbox : w.heap[gl]? = some (.cells #[.slice A l.length c] 23 (0, 0))) (hC : k28.C w A l.length l) (hc : l.length ≤ c) (hlen : l.length ≤ 1000) (hwf : ∀ t ∈ l, wfT t) (hadd : addR l t = (m, i, 0)) :
    Calls Try.prog 42 #[tv t, .pointer (some ⟨gl, 0, none⟩)] w fun e w' => e = .returned (.tuple #[]) ∧ (∃ B d, w'.heap[gl]? = some (.cells #[.slice B m.length d] 23 (0, 0)) ∧ m.length ≤ d ∧ k28.C w' B m.length m) ∧ Below base w w' := by
  obtain ⟨w1, hw1⟩ : ∃ w1, w.alloc (.cells #[.int .i64 t.f0, .int .u64 t.f1, .int .i64 t.f2, .int .i64 t.f3] 28 (0, 0)) = w1 := ⟨_, rfl⟩
  have hb1 : Below w.heap.size w w1 := by rw [← hw1]; exact below_alloc (Below.refl _ _) _
  have hK1 : w1.heap[w.heap.size]? = some (.cells #[.int .i64 t.f0, .int .u64 t.f1, .int .i64 t.f2, .int .i64 t.f3] 28 (0, 0)) := by rw [← hw1]; exact heap_alloc_new _ _
  have hbox1 := (hb1.block _ (blk_lt hbox)).trans hbox
  have hcall := Aside0.mk (add_calls A c l t w1 (Kd.C_below hC hb1) hc (by omega) hwf)
  obtain ⟨x0, x1, x2, x3⟩ := box4 hK1
  have z0 := box1 hbox1
  have hgl := Lib.hid (blk_lt hbox)
  replace hb1 := Aside0.mk hb1
  replace hbox1 := Aside0.mk hbox1
  clear hC hbox hK1
  go_enter Try.func42, Try.ntmps42
  go_wp2_with fail
  refine hcall.out.mono ?_; rintro e_ w2 ⟨hE, hb2⟩
  obtain ⟨B, d, rfl, hd, hCB⟩ := add_ok hadd hE
  have hbox2 := (hb2.block _ (blk_lt hbox1.out)).trans hbox1.out
  have hB2 := below_step hb1.out hb2
  clear hE hcall x0 x1 x2 x3 z0 hb2
  go_wp2_with ((with_reducible refine gate_store (t := 23) (p := 1) rfl ?_); go_loud (refine wpList_storeBox rfl rfl 23 (.tmp 1) (.tmp 15) rfl (.slice B m.length d) [.slice B m.length d] rfl rfl rfl (by kernel_rfl) (by simp [Value.oneCell']) hbox2 rfl ?_); intro w3 hK3 hg3 hs3)
  have hB3 := (hB2.mono (B' := base) (by have := hgl.out; omega)).grown hg3 (by have := hB2.size; have := hgl.out; omega) (fun k hk => by injection hk with hk; omega)
  have hC3 := Aside0.mk (C28_put hCB hbox2 (by intro k z h; cases h) hg3)
  replace hB3 := Aside0.mk hB3
  replace hK3 := Aside0.mk hK3
  clear hg3 hs3 hCB hbox2 hB2
  go_wp2
  go_end0
  exact ⟨rfl, ⟨B, d, hK3.out, hd, hC3.out⟩, hB3.out⟩
/-- The terms of a first text, names from one on. -/
def helloT (f : Int) : List S28 := [⟨0, f, 0, 0⟩, ⟨0, f + 1, 0, 0⟩, ⟨0, f + 2, 0, 0⟩, ⟨0, f + 3, 0, 0⟩, ⟨1, 0, 0, 0⟩, ⟨1, 0, 1, 0⟩, ⟨1, 0, 2, 0⟩, ⟨1, 0, 3, 0⟩, ⟨2, 0, 0, 3⟩, ⟨2, 0, 1, 2⟩, ⟨2, 0, 1, 3⟩, ⟨4, 0, 8, 9⟩, ⟨4, 0, 11, 10⟩, ⟨3, 0, 12, 0⟩, ⟨0, f + 9, 0, 0⟩, ⟨5, 0, 13, 14⟩, ⟨6, 0, 13, 15⟩]
theorem hello_ok (f : Int) (j : Nat) (hj : j < 17) : okT (helloT f) j = true := by
  have h : j = 0 ∨ j = 1 ∨ j = 2 ∨ j = 3 ∨ j = 4 ∨ j = 5 ∨ j = 6 ∨ j = 7 ∨ j = 8 ∨ j = 9 ∨ j = 10 ∨ j = 11 ∨ j = 12 ∨ j = 13 ∨ j = 14 ∨ j = 15 ∨ j = 16 := by omega
  rcases h with rfl | rfl | rfl | rfl | rfl | rfl | rfl | rfl | rfl | rfl | rfl | rfl | rfl | rfl | rfl | rfl | rfl <;> simp [okT, helloT, rd_T28, madeB, hasT, eqT, unaryB, binaryB, inB] <;> omega
theorem okT_take (l : List S28) (k j : Nat) (hj : j < k) (hk : k ≤ l.length) : okT (l.take k) j = okT l j := by
  unfold okT
  rw [List.take_take, Nat.min_eq_left (by omega), rd28_nat l j (by omega), rd28_nat (l.take k) j (by rw [List.length_take]; omega), List.getElem_take]
theorem hello_right (f : Int) (k : Nat) (hk : k ≤ 17) : rightB ((helloT f).take k) = true := by
  have hl : ((helloT f).take k).length = k := by rw [List.length_take]; exact Nat.min_eq_left hk
  unfold rightB rowT
  rw [hl, Bool.and_eq_true]
  refine ⟨?_, decide_eq_true (by omega)⟩
  rw [List.all_eq_true]
  intro j hj
  rw [List.mem_range] at hj
  rw [okT_take (helloT f) _ _ hj hk]
  exact hello_ok f j (by omega)
theorem hello_turn (f : Int) (k : Nat) (hk : k < 17) : turnT (rd_T28 (helloT f) (k : Int)) = rd_T28 (helloT f) (k : Int) := by
  have h : k = 0 ∨ k = 1 ∨ k = 2 ∨ k = 3 ∨ k = 4 ∨ k = 5 ∨ k = 6 ∨ k = 7 ∨ k = 8 ∨ k = 9 ∨ k = 10 ∨ k = 11 ∨ k = 12 ∨ k = 13 ∨ k = 14 ∨ k = 15 ∨ k = 16 := by omega
  rcases h with rfl | rfl | rfl | rfl | rfl | rfl | rfl | rfl | rfl | rfl | rfl | rfl | rfl | rfl | rfl | rfl | rfl <;> rfl
theorem idx_none {l : List S28} {t : S28} (h : hasT l t = false) : idxT l t = -1 := by
  unfold idxT idxN
  rw [if_neg]
  intro hlt
  have h1 := List.findIdx_getElem (p := fun x => eqT t x) (w := hlt)
  rw [eqT_iff] at h1
  rw [Bool.eq_false_iff] at h
  exact h (hasT_iff.2 (h1 ▸ List.getElem_mem hlt))
theorem hello_add (f : Int) (k : Nat) (hk : k < 17) : addR ((helloT f).take k) (rd_T28 (helloT f) (k : Int)) = ((helloT f).take (k + 1), (k : Int), 0) := by
  have hl : ((helloT f).take k).length = k := by rw [List.length_take]; exact Nat.min_eq_left (Nat.le_of_lt hk)
  have hok := hello_ok f k hk
  unfold okT at hok
  obtain ⟨h1, h2⟩ := Bool.and_eq_true_iff.1 hok
  have h3 : hasT ((helloT f).take k) (rd_T28 (helloT f) (k : Int)) = false := by simpa using h2
  unfold addR
  rw [if_pos (hello_right f k (by omega)), hello_turn f k hk, hl, if_pos h1, idx_none h3, if_neg (by decide), if_neg (by omega), List.take_succ_eq_append_getElem (show k < (helloT f).length from hk), rd28_nat (helloT f) k hk]
  rfl
theorem hello_wf (f : Int) (h0 : 0 ≤ f) (h1 : f < 1152921504606846976) (k : Nat) : ∀ t ∈ (helloT f).take k, wfT t := fun t ht => by
  have hm := List.mem_of_mem_take ht
  have hu : ∀ n : Int, 0 ≤ n → n ≤ 9 → (Lit.int .u64 (f + n)).wf = true := fun n a b => by
    have e1 : IntKind.u64.min = 0 := rfl
    have e2 : IntKind.u64.max = 18446744073709551615 := rfl
    simp [Lit.wf]
    omega
  unfold helloT at hm
  simp only [List.mem_cons, List.not_mem_nil, or_false] at hm
  have hu0 := hu 0 (by omega) (by omega)
  rw [Int.add_zero] at hu0
  rcases hm with rfl | rfl | rfl | rfl | rfl | rfl | rfl | rfl | rfl | rfl | rfl | rfl | rfl | rfl | rfl | rfl | rfl <;> first | exact ⟨by rfl, by rfl, by rfl, by rfl⟩ | exact ⟨by rfl, hu0, by rfl, by rfl⟩ | exact ⟨by rfl, hu _ (by omega) (by omega), by rfl, by rfl⟩
/-- The first so many terms of a first text, read through the box of hello's list. -/
def HB (f : Int) (k gl : Nat) (W : World) : Prop := ∃ A c, W.heap[gl]? = some (.cells #[.slice A k c] 23 (0, 0)) ∧ k ≤ c ∧ k28.C W A k ((helloT f).take k)
theorem hello_len (f : Int) (k : Nat) (hk : k ≤ 17) : ((helloT f).take k).length = k := by rw [List.length_take]; exact Nat.min_eq_left hk
theorem adder_step (f : Int) (h0 : 0 ≤ f) (h1 : f < 1152921504606846976) (k gl : Nat) (hk : k < 17) (w : World) (base : Nat) (hbase : base ≤ gl) (h : HB f k gl w) :
    Calls Try.prog 42 #[tv (rd_T28 (helloT f) (k : Int)), .pointer (some ⟨gl, 0, none⟩)] w fun e w' => e = .returned (.tuple #[]) ∧ HB f (k + 1) gl w' ∧ Below base w w' := by
  obtain ⟨A, c, hbox, hc, hC⟩ := h
  have hl := hello_len f k (by omega)
  have := adder_calls gl A c ((helloT f).take k) ((helloT f).take (k + 1)) (rd_T28 (helloT f) (k : Int)) (k : Int) w base hbase (by rw [hl]; exact hbox) (by rw [hl]; exact hC) (by rw [hl]; exact hc) (by rw [hl]; omega) (hello_wf f h0 h1 k) (hello_add f k hk)
  refine this.mono ?_
  rintro e w' ⟨he, ⟨B, d, hb, hd, hCB⟩, hB⟩
  rw [hello_len f (k + 1) (by omega)] at hb hd hCB
  exact ⟨he, ⟨B, d, hb, hd, hCB⟩, hB⟩
theorem HB_zero (f : Int) (gl : Nat) (W : World) (h : W.heap[gl]? = some (.cells #[.slice none 0 0] 23 (0, 0))) : HB f 0 gl W := ⟨none, 0, h, Nat.le_refl _, rfl, Nat.zero_le _, fun h => absurd h (Nat.lt_irrefl _)⟩
set_option maxHeartbeats 4000000 in
set_option maxRecDepth 100000 in
theorem hello_calls (f : Int) (h0 : 0 ≤ f) (h1 : f < 1152921504606846976) (w : World) :
    Calls Try.prog 11 #[.int .u64 f] w fun e w' => (∃ A c, e = .returned (.tuple #[.slice A 17 c, .bool true]) ∧ 17 ≤ c ∧ k28.C w' A 17 (helloT f)) ∧ Below w.heap.size w w' := by
  obtain ⟨w1, hw1⟩ : ∃ w1, w.alloc (.cells #[.slice none 0 0] 23 (0, 0)) = w1 := ⟨_, rfl⟩
  have hb1 : Below w.heap.size w w1 := by rw [← hw1]; exact below_alloc (Below.refl _ _) _
  have hH1 : HB f 0 w.heap.size w1 := HB_zero _ _ _ (by rw [← hw1]; exact heap_alloc_new _ _)
  have hadd : Hid (∀ (k : Nat) (W : World), k < 17 → HB f k w.heap.size W → Calls Try.prog 42 #[tv (rd_T28 (helloT f) (k : Int)), .pointer (some ⟨w.heap.size, 0, none⟩)] W fun e w' => e = .returned (.tuple #[]) ∧ HB f (k + 1) w.heap.size w' ∧ Below w.heap.size W w') := Lib.hid fun k W hk hH => adder_step f h0 h1 k w.heap.size hk W w.heap.size (Nat.le_refl _) hH
  go_enter Try.func11, Try.ntmps11
  go_wp2
  go_loopw [9] (fun v wr => ∃ i : Nat, i ≤ 4 ∧ v = .int .u64 (i : Int) ∧ HB f i w.heap.size wr ∧ Below w.heap.size w wr) (fun v _ => 4 - (intOf v).toNat)
  case atStart => exact ⟨0, by omega, rfl, hH1, hb1⟩
  case round =>
    obtain ⟨i, hi, rfl, hH, hB⟩ := hrel
    replace hH := Aside0.mk hH
    replace hB := Aside0.mk hB
    by_cases hlt : (i : Int) < 4
    · have hwr : IntKind.u64.wrap (f + (i : Int)) = f + (i : Int) := by rw [IntKind.wrap_u64]; omega
      have hv : tv (rd_T28 (helloT f) (i : Int)) = .agg #[.int .i64 0, .int .u64 (f + (i : Int)), .int .i64 0, .int .i64 0] := by
        have hi4 : i = 0 ∨ i = 1 ∨ i = 2 ∨ i = 3 := by omega
        rcases hi4 with rfl | rfl | rfl | rfl
        · show Value.agg #[.int .i64 0, .int .u64 f, .int .i64 0, .int .i64 0] = _
          simp
        · rfl
        · rfl
        · rfl
      have hc := hadd.out i wr (by omega) hH.out
      rw [hv] at hc
      replace hc := Aside0.mk hc
      clear hv
      go_wp2_with fail
      refine hc.out.mono ?_; rintro e_ w2 ⟨rfl, hH2, hb2⟩
      have hB2 := Aside0.mk (hB.out.trans hb2)
      replace hH2 := Aside0.mk hH2
      clear hc hb2
      go_wp2
      go_roundw
      case rel => exact ⟨i + 1, by omega, by go_num, hH2.out, hB2.out⟩
      case measure => simp [intOf]; omega
    · obtain rfl : i = 4 := by omega
      obtain ⟨wo, hwo⟩ : ∃ wo : World, wo = wr := ⟨_, rfl⟩
      subst hwo
      go_wp2
      go_loopw [19] (fun v wr => ∃ i : Nat, i ≤ 4 ∧ v = .int .i64 (i : Int) ∧ HB f (4 + i) w.heap.size wr ∧ Below w.heap.size w wr) (fun v _ => 4 - (intOf v).toNat)
      case atStart => exact ⟨0, by omega, rfl, hH.out, hB.out⟩
      case round =>
        clear hH hB
        obtain ⟨j, hj, rfl, hH, hB⟩ := hrel
        replace hH := Aside0.mk hH
        replace hB := Aside0.mk hB
        by_cases hlt : (j : Int) < 4
        · have hv : tv (rd_T28 (helloT f) ((4 + j : Nat) : Int)) = .agg #[.int .i64 1, .int .u64 0, .int .i64 (j : Int), .int .i64 0] := by
            have hj4 : j = 0 ∨ j = 1 ∨ j = 2 ∨ j = 3 := by omega
            rcases hj4 with rfl | rfl | rfl | rfl <;> rfl
          have hc := hadd.out (4 + j) wr (by omega) hH.out
          rw [hv] at hc
          replace hc := Aside0.mk hc
          clear hv
          go_wp2_with fail
          refine hc.out.mono ?_; rintro e_ w2 ⟨rfl, hH2, hb2⟩
          have hB2 := Aside0.mk (hB.out.trans hb2)
          replace hH2 := Aside0.mk hH2
          clear hc hb2
          go_wp2
          go_roundw
          case rel => exact ⟨j + 1, by omega, by go_num, hH2.out, hB2.out⟩
          case measure => simp [intOf]; omega
        · obtain rfl : j = 4 := by omega
          have hw9 : IntKind.u64.wrap (f + 9) = f + 9 := by rw [IntKind.wrap_u64]; omega
          have hH8 : Aside0 (HB f 8 w.heap.size wr) := Aside0.mk hH.out
          have hB8 := hB
          clear hH hB
          have hc := Aside0.mk (hadd.out 8 wr (by omega) hH8.out)
          go_wp2_with fail
          refine hc.out.mono ?_; rintro e_ w9 ⟨rfl, hq, hb⟩
          have hH9 : Aside0 (HB f 9 w.heap.size w9) := Aside0.mk hq
          have hB9 := Aside0.mk (hB8.out.trans hb)
          clear hc hq hb hH8 hB8
          have hc := Aside0.mk (hadd.out 9 w9 (by omega) hH9.out)
          go_wp2_with fail
          refine hc.out.mono ?_; rintro e_ w10 ⟨rfl, hq, hb⟩
          have hH10 : Aside0 (HB f 10 w.heap.size w10) := Aside0.mk hq
          have hB10 := Aside0.mk (hB9.out.trans hb)
          clear hc hq hb hH9 hB9
          have hc := Aside0.mk (hadd.out 10 w10 (by omega) hH10.out)
          go_wp2_with fail
          refine hc.out.mono ?_; rintro e_ w11 ⟨rfl, hq, hb⟩
          have hH11 : Aside0 (HB f 11 w.heap.size w11) := Aside0.mk hq
          have hB11 := Aside0.mk (hB10.out.trans hb)
          clear hc hq hb hH10 hB10
          have hc := Aside0.mk (hadd.out 11 w11 (by omega) hH11.out)
          go_wp2_with fail
          refine hc.out.mono ?_; rintro e_ w12 ⟨rfl, hq, hb⟩
          have hH12 : Aside0 (HB f 12 w.heap.size w12) := Aside0.mk hq
          have hB12 := Aside0.mk (hB11.out.trans hb)
          clear hc hq hb hH11 hB11
          have hc := Aside0.mk (hadd.out 12 w12 (by omega) hH12.out)
          go_wp2_with fail
          refine hc.out.mono ?_; rintro e_ w13 ⟨rfl, hq, hb⟩
          have hH13 : Aside0 (HB f 13 w.heap.size w13) := Aside0.mk hq
          have hB13 := Aside0.mk (hB12.out.trans hb)
          clear hc hq hb hH12 hB12
          have hc := Aside0.mk (hadd.out 13 w13 (by omega) hH13.out)
          go_wp2_with fail
          refine hc.out.mono ?_; rintro e_ w14 ⟨rfl, hq, hb⟩
          have hH14 : Aside0 (HB f 14 w.heap.size w14) := Aside0.mk hq
          have hB14 := Aside0.mk (hB13.out.trans hb)
          clear hc hq hb hH13 hB13
          have hc := Aside0.mk (hadd.out 14 w14 (by omega) hH14.out)
          go_wp2_with fail
          refine hc.out.mono ?_; rintro e_ w15 ⟨rfl, hq, hb⟩
          have hH15 : Aside0 (HB f 15 w.heap.size w15) := Aside0.mk hq
          have hB15 := Aside0.mk (hB14.out.trans hb)
          clear hc hq hb hH14 hB14
          have hc := Aside0.mk (hadd.out 15 w15 (by omega) hH15.out)
          go_wp2_with fail
          refine hc.out.mono ?_; rintro e_ w16 ⟨rfl, hq, hb⟩
          have hH16 : Aside0 (HB f 16 w.heap.size w16) := Aside0.mk hq
          have hB16 := Aside0.mk (hB15.out.trans hb)
          clear hc hq hb hH15 hB15
          have hc := Aside0.mk (hadd.out 16 w16 (by omega) hH16.out)
          go_wp2_with fail
          refine hc.out.mono ?_; rintro e_ w17 ⟨rfl, hq, hb⟩
          have hH17 : Aside0 (HB f 17 w.heap.size w17) := Aside0.mk hq
          have hB17 := Aside0.mk (hB16.out.trans hb)
          clear hc hq hb hH16 hB16
          obtain ⟨A, c, hbox, hc17, hC⟩ := hH17.out
          have z0 := box1 hbox
          replace hC := Aside0.mk hC
          clear hbox
          go_wp2
          go_quiet (fail)
          go_wp2
          go_ret2
          exact ⟨⟨A, c, rfl, hc17, hC.out⟩, hB17.out.trans ((Drawn0.mk ⟨_, rfl⟩).below.mono hB17.out.size)⟩
end Go.Proofs.Ytenmmeehgnkcpaa.Q
