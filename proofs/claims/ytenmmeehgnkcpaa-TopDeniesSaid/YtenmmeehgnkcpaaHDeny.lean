/- TopDenies' list: a first text's terms, and another one's; its add; what a judge can tell.
   Conditions: the names are of 64 bits. -/
import Derived.Test.YtenmmeehgnkcpaaHHello
import Derived.Test.YtenmmeehgnkcpaaHSim
namespace Go.Proofs.Ytenmmeehgnkcpaa.Q
open Go.RowKit Go.Proofs.YtenmmeehgnkcpaaW.PrintWords Go.Proofs.YtenmmeehgnkcpaaW.PrintLast Go.Proofs.YtenmmeehgnkcpaaW.PrintMore
set_option linter.unusedVariables false
set_option linter.unusedSimpArgs false

set_option maxHeartbeats 2000000 in
set_option maxRecDepth 100000 in
theorem adder13_calls (gl : Nat) (A : Option Addr) (c : Nat) (l m : List S28) (t : S28) (i : Int) (w : World) (base : Nat) (hbase : base ≤ gl) (hbox : w.heap[gl]? = some (.cells #[.slice A l.length c] 23 (0, 0))) (hC : k28.C w A l.length l) (hc : l.length ≤ c) (hlen : l.length ≤ 1000) (hwf : ∀ t ∈ l, wfT t) (hadd : addR l t = (m, i, 0)) :
    Calls Try.prog 13 #[tv t, .pointer (some ⟨gl, 0, none⟩)] w fun e w' => e = .returned (.int .i64 i) ∧ (∃ B d, w'.heap[gl]? = some (.cells #[.slice B m.length d] 23 (0, 0)) ∧ m.length ≤ d ∧ k28.C w' B m.length m) ∧ Below base w w' := by
  obtain ⟨w1, hw1⟩ : ∃ w1, w.alloc (.cells #[.int .i64 t.f0, .int .u64 t.f1, .int .i64 t.f2, .int .i64 t.f3] 28 (0, 0)) = w1 := ⟨_, rfl⟩
  have hb1 : Below w.heap.size w w1 := by rw [← hw1]; exact below_alloc (Below.refl _ _) _
  have hK1 : w1.heap[w.heap.size]? = some (.cells #[.int .i64 t.f0, .int .u64 t.f1, .int .i64 t.f2, .int .i64 t.f3] 28 (0, 0)) := by rw [← hw1]; exact heap_alloc_new _ _
  have hbox1 := (hb1.block _ (blk_lt hbox)).trans hbox
  have hcall := Aside0.mk (add_calls A c l t w1 (Kd.C_below hC hb1) hc (by omega) hwf)
  obtain ⟨x0, x1, x2, x3⟩ := box4 hK1
  have z0 := box1 hbox1
  have hgl := Lib.hid (blk_lt hbox)
  replace hb1 := Aside0.mk hb1
  replace hbox1 := Aside0.mk hbox1
  clear hC hbox hK1
  go_enter Try.func13, Try.ntmps13
  go_wp2_with fail
  refine hcall.out.mono ?_; rintro e_ w2 ⟨hE, hb2⟩
  obtain ⟨B, d, rfl, hd, hCB⟩ := add_ok hadd hE
  have hbox2 := (hb2.block _ (blk_lt hbox1.out)).trans hbox1.out
  have hB2 := below_step hb1.out hb2
  clear hE hcall x0 x1 x2 x3 z0 hb2
  go_wp2_with ((with_reducible refine gate_store (t := 23) (p := 1) rfl ?_); go_loud (refine wpList_storeBox rfl rfl 23 (.tmp 1) (.tmp 16) rfl (.slice B m.length d) [.slice B m.length d] rfl rfl rfl (by kernel_rfl) (by simp [Value.oneCell']) hbox2 rfl ?_); intro w3 hK3 hg3 hs3)
  have hB3 := (hB2.mono (B' := base) (by have := hgl.out; omega)).grown hg3 (by have := hB2.size; have := hgl.out; omega) (fun k hk => by injection hk with hk; omega)
  have hC3 := Aside0.mk (C28_put hCB hbox2 (by intro k z h; cases h) hg3)
  replace hB3 := Aside0.mk hB3
  replace hK3 := Aside0.mk hK3
  clear hg3 hs3 hCB hbox2 hB2
  go_wp2
  go_ret
  exact ⟨rfl, ⟨B, d, hK3.out, hd, hC3.out⟩, hB3.out⟩
/-- A first text's terms, and those of one that was made alone. -/
def denyT (f : Int) : List S28 := [⟨0, f, 0, 0⟩, ⟨0, f + 1, 0, 0⟩, ⟨0, f + 2, 0, 0⟩, ⟨0, f + 3, 0, 0⟩, ⟨1, 0, 0, 0⟩, ⟨1, 0, 1, 0⟩, ⟨1, 0, 2, 0⟩, ⟨1, 0, 3, 0⟩, ⟨2, 0, 0, 3⟩, ⟨2, 0, 1, 2⟩, ⟨2, 0, 1, 3⟩, ⟨4, 0, 8, 9⟩, ⟨4, 0, 11, 10⟩, ⟨3, 0, 12, 0⟩, ⟨0, f + 9, 0, 0⟩, ⟨5, 0, 13, 14⟩, ⟨6, 0, 13, 15⟩,
  ⟨0, f + 20, 0, 0⟩, ⟨0, f + 21, 0, 0⟩, ⟨1, 0, 17, 0⟩, ⟨2, 0, 2, 17⟩, ⟨2, 0, 3, 17⟩, ⟨4, 0, 8, 20⟩, ⟨4, 0, 22, 21⟩, ⟨3, 0, 23, 0⟩, ⟨5, 0, 24, 18⟩, ⟨6, 0, 24, 25⟩]
theorem deny_hello (f : Int) : (denyT f).take 17 = helloT f := rfl
theorem deny_ok (f : Int) (j : Nat) (hj : j < 27) : okT (denyT f) j = true := by
  by_cases h17 : j < 17
  · rw [← okT_take (denyT f) 17 j h17 (Nat.le_of_ble_eq_true rfl), deny_hello]
    exact hello_ok f j h17
  · have h : j = 17 ∨ j = 18 ∨ j = 19 ∨ j = 20 ∨ j = 21 ∨ j = 22 ∨ j = 23 ∨ j = 24 ∨ j = 25 ∨ j = 26 := by omega
    rcases h with rfl | rfl | rfl | rfl | rfl | rfl | rfl | rfl | rfl | rfl <;> simp [okT, denyT, rd_T28, madeB, hasT, eqT, unaryB, binaryB, inB] <;> omega
theorem deny_len (f : Int) (k : Nat) (hk : k ≤ 27) : ((denyT f).take k).length = k := by rw [List.length_take]; exact Nat.min_eq_left hk
theorem deny_right (f : Int) (k : Nat) (hk : k ≤ 27) : rightB ((denyT f).take k) = true := by
  rw [rowT_yes fun j hj => ?_]
  · rw [deny_len f k hk]; exact decide_eq_true (by omega)
  · rw [deny_len f k hk] at hj
    rw [okT_take (denyT f) _ _ hj hk]
    exact deny_ok f j (by omega)
theorem deny_add (f : Int) (k : Nat) (u : S28) (hk : k < 27) (hu : turnT u = rd_T28 (denyT f) (k : Int)) : addR ((denyT f).take k) u = ((denyT f).take (k + 1), (k : Int), 0) := by
  have hl := deny_len f k (by omega)
  have hok := deny_ok f k hk
  unfold okT at hok
  obtain ⟨h1, h2⟩ := Bool.and_eq_true_iff.1 hok
  have h3 : hasT ((denyT f).take k) (rd_T28 (denyT f) (k : Int)) = false := by simpa using h2
  unfold addR
  rw [if_pos (deny_right f k (by omega)), hu, hl, if_pos h1, idx_none h3, if_neg (by decide), if_neg (by omega), List.take_succ_eq_append_getElem (show k < (denyT f).length from hk), rd28_nat (denyT f) k hk]
  rfl
theorem deny_wf (f : Int) (h0 : 0 ≤ f) (h1 : f < 1152921504606846976) (k : Nat) : ∀ t ∈ (denyT f).take k, wfT t := fun t ht => by
  have hm := List.mem_of_mem_take ht
  have hu : ∀ n : Int, 0 ≤ n → n ≤ 21 → (Lit.int .u64 (f + n)).wf = true := fun n a b => by
    have e1 : IntKind.u64.min = 0 := rfl
    have e2 : IntKind.u64.max = 18446744073709551615 := rfl
    simp [Lit.wf]
    omega
  unfold denyT at hm
  simp only [List.mem_cons, List.not_mem_nil, or_false] at hm
  have hu0 := hu 0 (by omega) (by omega)
  rw [Int.add_zero] at hu0
  rcases hm with rfl | rfl | rfl | rfl | rfl | rfl | rfl | rfl | rfl | rfl | rfl | rfl | rfl | rfl | rfl | rfl | rfl | rfl | rfl | rfl | rfl | rfl | rfl | rfl | rfl | rfl | rfl <;> first | exact ⟨by rfl, by rfl, by rfl, by rfl⟩ | exact ⟨by rfl, hu0, by rfl, by rfl⟩ | exact ⟨by rfl, hu _ (by omega) (by omega), by rfl, by rfl⟩
/-- The first so many of them, read through the box of the list. -/
def DB (f : Int) (k gl : Nat) (W : World) : Prop := ∃ A c, W.heap[gl]? = some (.cells #[.slice A k c] 23 (0, 0)) ∧ k ≤ c ∧ k28.C W A k ((denyT f).take k)
theorem deny_step (f : Int) (h0 : 0 ≤ f) (h1 : f < 1152921504606846976) (k gl : Nat) (u : S28) (hk : k < 27) (hu : turnT u = rd_T28 (denyT f) (k : Int)) (w : World) (base : Nat) (hbase : base ≤ gl) (h : DB f k gl w) :
    Calls Try.prog 13 #[tv u, .pointer (some ⟨gl, 0, none⟩)] w fun e w' => e = .returned (.int .i64 (k : Int)) ∧ DB f (k + 1) gl w' ∧ Below base w w' := by
  obtain ⟨A, c, hbox, hc, hC⟩ := h
  have hl := deny_len f k (by omega)
  have := adder13_calls gl A c ((denyT f).take k) ((denyT f).take (k + 1)) u (k : Int) w base hbase (by rw [hl]; exact hbox) (by rw [hl]; exact hC) (by rw [hl]; exact hc) (by rw [hl]; omega) (deny_wf f h0 h1 k) (deny_add f k u hk hu)
  refine this.mono ?_
  rintro e w' ⟨he, ⟨B, d, hb, hd, hCB⟩, hB⟩
  rw [deny_len f (k + 1) (by omega)] at hb hd hCB
  exact ⟨he, ⟨B, d, hb, hd, hCB⟩, hB⟩
/-- The one's places, and the other one's. -/
def denyR : List (Int × Int) := [(0, 0), (1, 17), (2, 2), (3, 3), (4, 4), (5, 19), (8, 8), (9, 20), (10, 21), (11, 22), (12, 23), (13, 24), (14, 18), (15, 25), (16, 26)]
theorem deny_sim (f : Int) : Sim (fun i j => (i, j) ∈ denyR) (denyT f) (denyT f) := by
  have h1 : ∀ p ∈ denyR, ∀ q ∈ denyR, p.1 = q.1 → p.2 = q.2 := by decide
  have h2 : ∀ p ∈ denyR, ∀ q ∈ denyR, p.2 = q.2 → p.1 = q.1 := by decide
  have h3 : ∀ p ∈ denyR, 0 ≤ p.1 ∧ p.1 < 27 ∧ 0 ≤ p.2 ∧ p.2 < 27 := by decide
  refine ⟨fun i j j' p q => h1 _ p _ q rfl, fun i i' j p q => h2 _ p _ q rfl, fun i j p => h3 _ p, fun i j p => ?_⟩
  simp only [denyR, List.mem_cons, List.not_mem_nil, or_false, Prod.mk.injEq] at p
  rcases p with ⟨rfl, rfl⟩ | ⟨rfl, rfl⟩ | ⟨rfl, rfl⟩ | ⟨rfl, rfl⟩ | ⟨rfl, rfl⟩ | ⟨rfl, rfl⟩ | ⟨rfl, rfl⟩ | ⟨rfl, rfl⟩ | ⟨rfl, rfl⟩ | ⟨rfl, rfl⟩ | ⟨rfl, rfl⟩ | ⟨rfl, rfl⟩ | ⟨rfl, rfl⟩ | ⟨rfl, rfl⟩ | ⟨rfl, rfl⟩ <;> simp [RelT, denyT, rd_T28, denyR]
theorem deny_full (f : Int) : (denyT f).take 27 = denyT f := rfl
theorem deny_first (f : Int) (n : Nat) (h2 : 2 ≤ n) (h5 : n ≤ 5) : staticR (denyT f) ([2, 3, 4, 5, 15].take n) ([2, 3, 4, 19, 25].take n) = (true, 0) := by
  have hr := deny_right f 27 (Nat.le_refl _)
  rw [deny_full] at hr
  have hn : n = 2 ∨ n = 3 ∨ n = 4 ∨ n = 5 := by omega
  refine static_sim (deny_sim f) ?_ hr ?_ (Nat.le_of_ble_eq_true rfl)
  · have h : ∀ i j, (i, j) ∈ denyR → (fun i j => (i, j) ∈ denyR) i j := fun _ _ h => h
    rcases hn with rfl | rfl | rfl | rfl
    · exact .cons (h 2 2 (by decide)) (.cons (h 3 3 (by decide)) .nil)
    · exact .cons (h 2 2 (by decide)) (.cons (h 3 3 (by decide)) (.cons (h 4 4 (by decide)) .nil))
    · exact .cons (h 2 2 (by decide)) (.cons (h 3 3 (by decide)) (.cons (h 4 4 (by decide)) (.cons (h 5 19 (by decide)) .nil)))
    · exact .cons (h 2 2 (by decide)) (.cons (h 3 3 (by decide)) (.cons (h 4 4 (by decide)) (.cons (h 5 19 (by decide)) (.cons (h 15 25 (by decide)) .nil))))
  · rcases hn with rfl | rfl | rfl | rfl <;> simp
theorem deny_second (f : Int) : staticR (denyT f) [3, 5, 13, 15, 16] [3, 19, 24, 25, 26] = (true, 0) := by
  have hr := deny_right f 27 (Nat.le_refl _)
  rw [deny_full] at hr
  have h : ∀ i j, (i, j) ∈ denyR → (fun i j => (i, j) ∈ denyR) i j := fun _ _ h => h
  exact static_sim (deny_sim f) (.cons (h 3 3 (by decide)) (.cons (h 5 19 (by decide)) (.cons (h 13 24 (by decide)) (.cons (h 15 25 (by decide)) (.cons (h 16 26 (by decide)) .nil))))) hr (by simp) (Nat.le_of_ble_eq_true rfl)
theorem deny_third (f : Int) : staticR (denyT f) [4, 4, 0] [4, 19, 0] = (false, 0) := by
  have hr := deny_right f 27 (Nat.le_refl _)
  rw [deny_full] at hr
  have hl : (denyT f).length = 27 := rfl
  obtain ⟨e1, r1, n1, p1⟩ := recR_fine (fr := [4, 4, 0]) hr (by simp) (by rw [hl]; decide) (by rw [items_len, hl]; decide)
  rw [items_len, hl] at n1
  have i1 := items_len (denyT f) [4, 4, 0]
  have hpl := p1.length_le
  have hx : ∃ r, valsL (denyT f, false) (items (denyT f) [4, 4, 0]) = 4 :: 4 :: r := ⟨_, rfl⟩
  have hxl := valsL_len (items (denyT f) [4, 4, 0]) (denyT f, false)
  generalize (stL (denyT f, false) (items (denyT f) [4, 4, 0])).1 = m at *
  have hfr2 : ∀ x ∈ [(4 : Int), 19, 0], 0 ≤ x ∧ x < m.length := by
    intro x hx
    have h4 : x = 4 ∨ x = 19 ∨ x = 0 := by simpa using hx
    omega
  obtain ⟨e2, r2, n2, p2⟩ := recR_fine (l := m) (fr := [4, 19, 0]) r1 (by simp) hfr2 (by rw [items_len]; simp at n1 ⊢; omega)
  have hy : ∃ r, valsL (m, false) (items m [4, 19, 0]) = 4 :: 19 :: r := ⟨_, rfl⟩
  have hyl := valsL_len (items m [4, 19, 0]) (m, false)
  have i2 := items_len m [4, 19, 0]
  obtain ⟨xr, hx⟩ := hx
  obtain ⟨yr, hy⟩ := hy
  have hbo : bothR (denyT f) [4, 4, 0] [4, 19, 0] = (4 :: 4 :: xr, 4 :: 19 :: yr, 0) := by
    rw [both_eq _ _ _ _ e1, if_pos rfl]
    simp only [e2]
    rw [← hx, ← hy, if_neg (fun h => h.2 (by rw [hxl, hyl, i1, i2]; rfl))]
  have hap : apFind (4 :: 4 :: xr) (4 :: 19 :: yr) = some (0, 1) := rfl
  unfold staticR apartR apartV
  rw [hbo]
  simp only [hap]
  rfl
end Go.Proofs.Ytenmmeehgnkcpaa.Q
