/- The document's Recipes of layer 22.
   Conditions: the list is read as terms, the frame as places. -/
import Derived.Test.YtenmmeehgnkcpaaHRefOne
namespace Go.Proofs.Ytenmmeehgnkcpaa.Q
open Go.RowKit Go.Proofs.YtenmmeehgnkcpaaW.PrintWords Go.Proofs.YtenmmeehgnkcpaaW.PrintLast Go.Proofs.YtenmmeehgnkcpaaW.PrintMore
set_option linter.unusedVariables false
set_option linter.unusedSimpArgs false

theorem oneV_len (r : R3) (x : Int) : r.1.length ≤ (oneV r x).1.length ∧ (oneV r x).1.length ≤ r.1.length + 4 ∧ (oneV r x).2.1.length = r.2.1.length + 4 := by
  have a1 := addW_len r ⟨1, 0, x, 0⟩
  have a2 := addW_len (addW r ⟨1, 0, x, 0⟩) ⟨3, 0, x, 0⟩
  unfold oneV oneT
  split
  · have a3 := putW_len (addW (addW r ⟨1, 0, x, 0⟩) ⟨3, 0, x, 0⟩) (rd_T28 r.1 x).f2
    have a4 := putW_len (putW (addW (addW r ⟨1, 0, x, 0⟩) ⟨3, 0, x, 0⟩) (rd_T28 r.1 x).f2) (rd_T28 r.1 x).f3
    omega
  · have a3 := putW_len (addW (addW r ⟨1, 0, x, 0⟩) ⟨3, 0, x, 0⟩) (-1)
    have a4 := putW_len (putW (addW (addW r ⟨1, 0, x, 0⟩) ⟨3, 0, x, 0⟩) (-1)) (-1)
    omega
theorem twoV_len (r : R3) (x y : Int) : r.1.length ≤ (twoV r x y).1.length ∧ (twoV r x y).1.length ≤ r.1.length + 4 ∧ (twoV r x y).2.1.length = r.2.1.length + 4 := by
  have key : ∀ (s : R3) (i : Int), r.1.length ≤ s.1.length → s.1.length ≤ r.1.length + 1 → s.2.1.length = r.2.1.length + 1 → r.1.length ≤ (addW (putW (addW s ⟨4, 0, x, y⟩) i) ⟨6, 0, x, y⟩).1.length ∧ (addW (putW (addW s ⟨4, 0, x, y⟩) i) ⟨6, 0, x, y⟩).1.length ≤ r.1.length + 4 ∧ (addW (putW (addW s ⟨4, 0, x, y⟩) i) ⟨6, 0, x, y⟩).2.1.length = r.2.1.length + 4 := fun s i h1 h2 h3 => by
    have a1 := addW_len s ⟨4, 0, x, y⟩
    have a2 := putW_len (addW s ⟨4, 0, x, y⟩) i
    have a3 := addW_len (putW (addW s ⟨4, 0, x, y⟩) i) ⟨6, 0, x, y⟩
    omega
  have b1 := addW_len r ⟨2, 0, x, (rd_T28 r.1 y).f2⟩
  have b2 := putW_len r (-1)
  unfold twoV twoT
  split <;> split <;> first | exact key _ _ b1.1 b1.2.1 b1.2.2 | exact key _ _ b2.1 b2.2.1 b2.2.2
def finalR (l : List S28) (fr : List Int) : R3 := fr.foldl (fun r x => fr.foldl (fun r y => twoV r x y) r) (fr.foldl oneV (l, fr, 0))
/-- The document's Recipes. -/
def refR (l : List S28) (fr : List Int) : R3 :=
  if rightB l = true then
    (if fr.length < 1 ∨ 5 < fr.length then ([], [], 2)
    else if fr.all (inL l.length) = true then (if (finalR l fr).2.2 = 0 then finalR l fr else ([], [], (finalR l fr).2.2))
    else ([], [], 5))
  else ([], [], 1)
theorem right20_calls (A : Option Addr) (c : Nat) (l : List S28) (w : World) (hC : k28.C w A l.length l) (hc : l.length ≤ c) (hl : l.length ≤ 1000000) : Calls Try.prog 27 #[.slice A l.length c] w fun e w' => e = .returned (.bool (rightB l)) ∧ Below w.heap.size w w' := by
  refine (demurralref20_Right.calls _ A c l _ w hC hc (right_f l hl (2 * l.length + 3) (by omega))).mono ?_
  rintro e w' ⟨rfl, hb⟩
  exact ⟨rfl, hb⟩
/-- A list, recipes, and the error, in a box; the recipes' row is an old one, or one of numbers. -/
def BoxR (W : World) (g n : Nat) (r : R3) : Prop := ∃ A c B d, W.heap[g]? = some (.cells #[.slice A r.1.length c, .slice B r.2.1.length d, .int .i64 r.2.2] 56 (0, 0)) ∧ r.1.length ≤ c ∧ r.2.1.length ≤ d ∧ k28.C W A r.1.length r.1 ∧ (Kd.int .i64).C W B r.2.1.length r.2.1 ∧ (∀ ad, B = some ad → ad.block < n ∨ ∃ cur, W.heap[ad.block]? = some (.cells cur 3 (0, 0)))
theorem inR_kept {W W' : World} {r : R3} {A B : Option Addr} {o t n : Nat} {cur : Array Value} (h3 : k28.C W A r.1.length r.1) (h4 : (Kd.int .i64).C W B r.2.1.length r.2.1) (h5 : ∀ ad, B = some ad → ad.block < n ∨ ∃ cur, W.heap[ad.block]? = some (.cells cur 3 (0, 0))) (hn : n ≤ o)
    (hv : ∀ v ∈ cur, ∀ i, v ≠ .int .u64 i) (ht : t ≠ 3) (hg : W.heap[o]? = some (.cells cur t (0, 0))) (hb : W.grownBy W' (some o)) : k28.C W' A r.1.length r.1 ∧ (Kd.int .i64).C W' B r.2.1.length r.2.1 ∧ (∀ ad, B = some ad → ad.block < n ∨ ∃ cur, W'.heap[ad.block]? = some (.cells cur 3 (0, 0))) := by
  have hne : ∀ ad, B = some ad → ad.block ≠ o := fun ad e e2 => by
    rcases h5 ad e with h | ⟨cu, hcu⟩
    · omega
    · rw [e2, hg] at hcu
      injection hcu with hcu
      injection hcu with _ hcu
      exact ht hcu
  refine ⟨C28_name h3 hg hv hb, CI_same h4 fun ad e hp => ?_, fun ad e => ?_⟩
  · exact hb.block _ (CI_block h4 hp ad e) (fun e2 => hne ad e (by injection e2))
  · rcases h5 ad e with h | ⟨cu, hcu⟩
    · exact .inl h
    · exact .inr ⟨cu, (hb.block _ (blk_lt hcu) (fun e2 => hne ad e (by injection e2))).trans hcu⟩
theorem boxR_below {W W' : World} {g n : Nat} {r : R3} (h : BoxR W g n r) (hb : Below W.heap.size W W') : BoxR W' g n r := by
  obtain ⟨A, c, B, d, h1, h2, h3, h4, h5, h6⟩ := h
  exact ⟨A, c, B, d, (hb.block _ (blk_lt h1)).trans h1, h2, h3, Kd.C_below h4 hb, Kd.C_below h5 hb, fun ad e => (h6 ad e).imp id fun ⟨cu, hcu⟩ => ⟨cu, (hb.block _ (blk_lt hcu)).trans hcu⟩⟩
--@@WALK
set_option maxHeartbeats 4000000 in
set_option maxRecDepth 100000 in
theorem refRec_calls (A0 : Option Addr) (c0 : Nat) (l : List S28) (A1 : Option Addr) (c1 : Nat) (fr : List Int) (w : World) (hC : k28.C w A0 l.length l) (hc0 : l.length ≤ c0) (hlen : l.length ≤ 1000000)
    (hF : (Kd.int .i64).C w A1 fr.length fr) (hc1 : fr.length ≤ c1) (hfl : fr.length ≤ 1000000) :
    Calls Try.prog 35 #[.slice A0 l.length c0, .slice A1 fr.length c1] w fun e w' => (∃ v, e = .returned v ∧ InR w' (refR l fr) v) ∧ Below w.heap.size w w' := by
  obtain ⟨w1, hw1⟩ : ∃ w1, w.alloc (.cells #[.slice none 0 0, .slice none 0 0, .int .i64 0] 56 (0, 0)) = w1 := ⟨_, rfl⟩
  have hb1 : Below w.heap.size w w1 := by rw [← hw1]; exact below_alloc (Below.refl _ _) _
  have hK1 : w1.heap[w.heap.size]? = some (.cells #[.slice none 0 0, .slice none 0 0, .int .i64 0] 56 (0, 0)) := by rw [← hw1]; exact heap_alloc_new _ _
  have hcall := Aside0.mk (right20_calls A0 c0 l w1 (Kd.C_below hC hb1) hc0 hlen)
  replace hF := Aside0.mk hF
  go_enter Try.func35, Try.ntmps35
  go_wp2_with fail
  refine hcall.out.mono ?_; rintro e_ w2 ⟨rfl, hb2⟩
  have hK2 := (hb2.block _ (blk_lt hK1)).trans hK1
  have hB2 := below_step hb1 hb2
  clear hcall hb1 hb2 hK1 hw1
  cases hr : rightB l with
  | false =>
    have hans : refR l fr = ([], [], 1) := by unfold refR; rw [hr]; rfl
    replace hans := Lib.hid hans
    go_wp2_with ((with_reducible refine gate_store (t := 56) (p := 4) rfl ?_); go_loud (refine wpList_storeBox rfl rfl 56 (.tmp 4) (.tmp 17) rfl (.agg #[.slice none 0 0, .slice none 0 0, .int .i64 1]) [.slice none 0 0, .slice none 0 0, .int .i64 1] rfl rfl rfl (by kernel_rfl) (by simp [Value.oneCell']) hK2 rfl ?_); intro z1 hZ hgz hsz)
    refine bodyPost_ret (results_cell_row rfl _ _ w.heap.size 56 _ (0, 0) _ rfl hZ Try.underlying56 rfl (by kernel_rfl)) rfl ?_
    rw [hans.out]
    exact ⟨⟨_, rfl, none, 0, none, 0, rfl, Nat.le_refl _, Nat.le_refl _, Kd.C_nil _ _, Kd.C_nil _ _⟩, hB2.grown hgz hB2.size (fun k hk => by injection hk; omega)⟩
  | true =>
    have hl400 := right_len hr
    by_cases hl1 : (fr.length : Int) < 1
    · skip
      have hans : refR l fr = ([], [], 2) := by unfold refR; rw [if_pos hr, if_pos (.inl (by omega))]
      replace hans := Lib.hid hans
      go_wp2_with ((with_reducible refine gate_store (t := 56) (p := 4) rfl ?_); go_loud (refine wpList_storeBox rfl rfl 56 (.tmp 4) (.tmp 26) rfl (.agg #[.slice none 0 0, .slice none 0 0, .int .i64 2]) [.slice none 0 0, .slice none 0 0, .int .i64 2] rfl rfl rfl (by kernel_rfl) (by simp [Value.oneCell']) hK2 rfl ?_); intro z1 hZ hgz hsz)
      refine bodyPost_ret (results_cell_row rfl _ _ w.heap.size 56 _ (0, 0) _ rfl hZ Try.underlying56 rfl (by kernel_rfl)) rfl ?_
      rw [hans.out]
      exact ⟨⟨_, rfl, none, 0, none, 0, rfl, Nat.le_refl _, Nat.le_refl _, Kd.C_nil _ _, Kd.C_nil _ _⟩, hB2.grown hgz hB2.size (fun k hk => by injection hk; omega)⟩
    by_cases hl5 : (5 : Int) < fr.length
    · skip
      have hans : refR l fr = ([], [], 2) := by unfold refR; rw [if_pos hr, if_pos (.inr (by omega))]
      replace hans := Lib.hid hans
      go_wp2_with ((with_reducible refine gate_store (t := 56) (p := 4) rfl ?_); go_loud (refine wpList_storeBox rfl rfl 56 (.tmp 4) (.tmp 26) rfl (.agg #[.slice none 0 0, .slice none 0 0, .int .i64 2]) [.slice none 0 0, .slice none 0 0, .int .i64 2] rfl rfl rfl (by kernel_rfl) (by simp [Value.oneCell']) hK2 rfl ?_); intro z1 hZ hgz hsz)
      refine bodyPost_ret (results_cell_row rfl _ _ w.heap.size 56 _ (0, 0) _ rfl hZ Try.underlying56 rfl (by kernel_rfl)) rfl ?_
      rw [hans.out]
      exact ⟨⟨_, rfl, none, 0, none, 0, rfl, Nat.le_refl _, Nat.le_refl _, Kd.C_nil _ _, Kd.C_nil _ _⟩, hB2.grown hgz hB2.size (fun k hk => by injection hk; omega)⟩
    have hF2 := Aside0.mk (Kd.C_below hF.out hB2)
    go_wp2
    go_loopw [29] (fun v wr => ∃ i : Nat, i ≤ fr.length ∧ v = .int .i64 (i : Int) ∧ (∀ j, j < i → inL l.length (rd fr (j : Int)) = true) ∧ wr = w2) (fun v _ => fr.length - (intOf v).toNat)
    case atStart => exact ⟨0, by omega, rfl, fun j h => absurd h (Nat.not_lt_zero _), rfl⟩
    case round =>
      obtain ⟨i, hi, rfl, hin, rfl⟩ := hrel
      by_cases hlt : (i : Int) < fr.length
      · obtain ⟨ad, rfl, hcell⟩ := Kd.at_int hF2.out (i : Int) (by omega) (by omega)
        rw [Int.toNat_natCast] at hcell
        have hall : inL l.length (rd fr (i : Int)) = false → fr.all (inL l.length) = false := fun h => by
          rw [List.all_eq_false]
          exact ⟨rd fr (i : Int), by rw [rdI_nat fr i (by omega)]; exact List.getElem_mem _, by rw [h]; decide⟩
        obtain ⟨x, hx⟩ : ∃ x, rd fr (i : Int) = x := ⟨_, rfl⟩
        rw [hx] at hcell hall
        by_cases hx0 : x < 0
        · have hno := hall (by unfold inL; rw [decide_eq_false (by omega)]; rfl)
          have hans : refR l fr = ([], [], 5) := by unfold refR; rw [if_pos hr, if_neg (by omega), hno]; rfl
          replace hans := Lib.hid hans
          go_wp2_with ((with_reducible refine gate_store (t := 56) (p := 4) rfl ?_); go_loud (refine wpList_storeBox rfl rfl 56 (.tmp 4) (.tmp 41) rfl (.agg #[.slice none 0 0, .slice none 0 0, .int .i64 5]) [.slice none 0 0, .slice none 0 0, .int .i64 5] rfl rfl rfl (by kernel_rfl) (by simp [Value.oneCell']) hK2 rfl ?_); intro z1 hZ hgz hsz)
          refine bodyPost_ret (results_cell_row rfl _ _ w.heap.size 56 _ (0, 0) _ rfl hZ Try.underlying56 rfl (by kernel_rfl)) rfl ?_
          rw [hans.out]
          exact ⟨⟨_, rfl, none, 0, none, 0, rfl, Nat.le_refl _, Nat.le_refl _, Kd.C_nil _ _, Kd.C_nil _ _⟩, hB2.grown hgz hB2.size (fun k hk => by injection hk; omega)⟩
        by_cases hx1 : (l.length : Int) ≤ x
        · have hno := hall (by unfold inL; rw [decide_eq_false (p := x < _) (by omega), Bool.and_false])
          have hans : refR l fr = ([], [], 5) := by unfold refR; rw [if_pos hr, if_neg (by omega), hno]; rfl
          replace hans := Lib.hid hans
          go_wp2_with ((with_reducible refine gate_store (t := 56) (p := 4) rfl ?_); go_loud (refine wpList_storeBox rfl rfl 56 (.tmp 4) (.tmp 41) rfl (.agg #[.slice none 0 0, .slice none 0 0, .int .i64 5]) [.slice none 0 0, .slice none 0 0, .int .i64 5] rfl rfl rfl (by kernel_rfl) (by simp [Value.oneCell']) hK2 rfl ?_); intro z1 hZ hgz hsz)
          refine bodyPost_ret (results_cell_row rfl _ _ w.heap.size 56 _ (0, 0) _ rfl hZ Try.underlying56 rfl (by kernel_rfl)) rfl ?_
          rw [hans.out]
          exact ⟨⟨_, rfl, none, 0, none, 0, rfl, Nat.le_refl _, Nat.le_refl _, Kd.C_nil _ _, Kd.C_nil _ _⟩, hB2.grown hgz hB2.size (fun k hk => by injection hk; omega)⟩
        have hin2 : Hid (∀ j, j < i + 1 → inL l.length (rd fr (j : Int)) = true) := Lib.hid fun j hj => by
          by_cases hji : j < i
          · exact hin j hji
          · obtain rfl : j = i := by omega
            rw [hx]
            unfold inL
            rw [decide_eq_true (show 0 ≤ x by omega), decide_eq_true (show x < _ by omega)]
            rfl
        clear hin hall
        go_wp2
        go_roundw
        case rel => exact ⟨i + 1, by omega, by go_num, hin2.out, trivial⟩
        case measure => simp [intOf]; omega
      · obtain rfl : i = fr.length := by omega
        have hall : Hid (fr.all (inL l.length) = true) := Lib.hid (List.all_eq_true.2 fun x hx => by
          obtain ⟨j, hj, rfl⟩ := List.getElem_of_mem hx
          have h0 := hin j hj
          rw [rdI_nat fr j hj] at h0
          exact h0)
        obtain ⟨w3, hw3⟩ : ∃ w3, wr.alloc (.cells #[.slice none 0 0, .slice none 0 0, .int .i64 0] 56 (0, 0)) = w3 := ⟨_, rfl⟩
        have hb3 : Below wr.heap.size wr w3 := by rw [← hw3]; exact below_alloc (Below.refl _ _) _
        have hK3 : w3.heap[wr.heap.size]? = some (.cells #[.slice none 0 0, .slice none 0 0, .int .i64 0] 56 (0, 0)) := by rw [← hw3]; exact heap_alloc_new _ _
        have hB3 := below_step hB2 hb3
        have hres3 := (hb3.block _ (blk_lt hK2)).trans hK2
        obtain ⟨g, hg⟩ : ∃ g, wr.heap.size = g := ⟨_, rfl⟩
        have hgo : w.heap.size < g := by rw [← hg]; exact blk_lt hK2
        rw [hg] at hK3
        go_wp2_with ((with_reducible refine gate_store (t := 56) (p := 7) rfl ?_); go_loud (refine wpList_storeBox rfl rfl 56 (.tmp 7) (.tmp 45) rfl (.agg #[.slice A0 l.length c0, .slice A1 fr.length c1, .int .i64 0]) [.slice A0 l.length c0, .slice A1 fr.length c1, .int .i64 0] rfl rfl rfl (by kernel_rfl) (by simp [Value.oneCell']) hK3 rfl ?_); intro w4 hK4 hg4 hs4)
        have hB4 := hB3.grown hg4 hB3.size (fun k hk => by injection hk; omega)
        have hres4 := (hg4.block _ (blk_lt hres3) (by simp; omega)).trans hres3
        have hbx4 : BoxR w4 g w.heap.size (l, fr, 0) := ⟨A0, c0, A1, c1, hK4, hc0, hc1, Kd.C_below hC hB4, Kd.C_below hF.out hB4, fun ad e => .inl (CI_block hF.out (by omega) ad e)⟩
        have hst : Hid (finalR l fr = fr.foldl (fun r x => fr.foldl (fun r y => twoV r x y) r) ((fr.drop 0).foldl oneV (l, fr, 0))) := Lib.hid rfl
        clear hK2 hB2 hw3 hb3 hK3 hB3 hres3 hg4 hs4 hF2 hin hC hK4
        go_loopw [48] (fun v wr => ∃ (i : Nat) (r : R3), i ≤ fr.length ∧ v = .int .i64 (i : Int) ∧ Hid (finalR l fr = fr.foldl (fun r x => fr.foldl (fun r y => twoV r x y) r) ((fr.drop i).foldl oneV r)) ∧ BoxR wr g w.heap.size r ∧ l.length ≤ r.1.length ∧ r.1.length ≤ 400 + 4 * i ∧ r.2.1.length ≤ 5 + 4 * i ∧ wr.heap[w.heap.size]? = some (.cells #[.slice none 0 0, .slice none 0 0, .int .i64 0] 56 (0, 0)) ∧ Below w.heap.size w wr) (fun v _ => fr.length - (intOf v).toNat)
        case atStart => exact ⟨0, (l, fr, 0), by omega, rfl, hst, hbx4, Nat.le_refl _, by show l.length ≤ _; omega, by show fr.length ≤ _; omega, hres4, hB4⟩
        case round =>
          clear hst hbx4 hres4 hB4
          obtain ⟨i, r, hi, rfl, hfin, hbx, hr0, hr1, hr2, hres, hB⟩ := hrel
          by_cases hlt : (i : Int) < fr.length
          · skip
            obtain ⟨ad, eA, hcell⟩ := Kd.at_int (Kd.C_below hF.out hB) (i : Int) (by omega) (by omega)
            try subst eA
            rw [Int.toNat_natCast] at hcell
            obtain ⟨hx0, hx1⟩ := inL_all hall.out (rd fr (i : Int)) (by rw [rdI_nat fr i (by omega)]; exact List.getElem_mem _)
            obtain ⟨x, hxe⟩ : ∃ x : Nat, rd fr (i : Int) = (x : Int) := ⟨(rd fr (i : Int)).toNat, by omega⟩
            rw [hxe] at hcell hx0 hx1
            obtain ⟨r', hr'⟩ : ∃ z, oneV r (x : Int) = z := ⟨_, rfl⟩
            have hl' := oneV_len r (x : Int)
            rw [hr'] at hl'
            obtain ⟨A, c, B, d, hbox, hcA, hdB, hCA, hPB, hrow⟩ := hbx
            have hcall := oneV_calls r A c B d x wr hcA hdB hCA hPB ⟨by omega, by omega⟩ (by omega)
            rw [hr'] at hcall
            replace hcall := Aside0.mk hcall
            obtain ⟨x0, x1, x2⟩ := box3 hbox
            replace hl' := Lib.hid hl'
            replace hr' := Lib.hid hr'
            go_wp2_with fail
            refine hcall.out.mono ?_; rintro e_ v1 ⟨⟨v_, rfl, A', c', B', d', rfl, g1, g2, g3, g4, g5⟩, hb1⟩
            have hbox2 := (hb1.block _ (blk_lt hbox)).trans hbox
            have hres2 := (hb1.block _ (blk_lt hres)).trans hres
            have hB1 := below_step hB hb1
            clear hcall x0 x1 x2 hbox hres hB hb1 hCA hPB hrow
            go_wp2_with ((with_reducible refine gate_store (t := 56) (p := 7) rfl ?_); go_loud (refine wpList_storeBox rfl rfl 56 (.tmp 7) (.tmp 54) rfl (.agg #[.slice A' r'.1.length c', .slice B' r'.2.1.length d', .int .i64 r'.2.2]) [.slice A' r'.1.length c', .slice B' r'.2.1.length d', .int .i64 r'.2.2] rfl rfl rfl (by kernel_rfl) (by simp [Value.oneCell']) hbox2 rfl ?_); intro z1 hZ hgz hsz)
            obtain ⟨f1, f2, f3⟩ := inR3_kept g1 g2 g3 g4 g5 (by simp) (by decide) hbox2 hgz
            have hbx' : BoxR z1 g w.heap.size r' := ⟨A', c', B', d', hZ, g1, g2, f1, f2, fun ad e => .inr (f3 ad e)⟩
            have hres' := (hgz.block _ (blk_lt hres2) (by simp; omega)).trans hres2
            have hB' := hB1.grown hgz hB1.size (fun k hk => by injection hk; omega)
            have hfin2 : Hid (finalR l fr = fr.foldl (fun r x => fr.foldl (fun r y => twoV r x y) r) ((fr.drop (i + 1)).foldl oneV r')) := Lib.hid (by rw [hfin.out, drop_int fr i (by omega), hxe, List.foldl_cons, hr'.out])
            have hl := hl'.out
            clear hfin hgz hsz hZ
            go_roundw
            case rel => exact ⟨i + 1, r', by omega, by go_num, hfin2, hbx', by omega, by omega, by omega, hres', hB'⟩
            case measure => simp [intOf]; omega
          · obtain rfl : i = fr.length := by omega
            have hst : Hid (finalR l fr = (fr.drop 0).foldl (fun r x => fr.foldl (fun r y => twoV r x y) r) r) := Lib.hid (by rw [hfin.out, List.drop_length]; rfl)
            clear hfin
            go_wp2
            go_loopw [58] (fun v wr => ∃ (i : Nat) (r : R3), i ≤ fr.length ∧ v = .int .i64 (i : Int) ∧ Hid (finalR l fr = (fr.drop i).foldl (fun r x => fr.foldl (fun r y => twoV r x y) r) r) ∧ BoxR wr g w.heap.size r ∧ l.length ≤ r.1.length ∧ r.1.length ≤ 400 + 4 * (5 + 5 * i) ∧ r.2.1.length ≤ 5 + 4 * (5 + 5 * i) ∧ wr.heap[w.heap.size]? = some (.cells #[.slice none 0 0, .slice none 0 0, .int .i64 0] 56 (0, 0)) ∧ Below w.heap.size w wr) (fun v _ => fr.length - (intOf v).toNat)
            case atStart => exact ⟨0, r, by omega, rfl, hst, hbx, hr0, by omega, by omega, hres, hB⟩
            case round =>
              clear hst hbx hres hB hr0 hr1 hr2
              obtain ⟨i, r, hi, rfl, hfin, hbx, hr0, hr1, hr2, hres, hB⟩ := hrel
              by_cases hlt : (i : Int) < fr.length
              · skip
                obtain ⟨ad, eA, hcell⟩ := Kd.at_int (Kd.C_below hF.out hB) (i : Int) (by omega) (by omega)
                try subst eA
                rw [Int.toNat_natCast] at hcell
                obtain ⟨hx0, hx1⟩ := inL_all hall.out (rd fr (i : Int)) (by rw [rdI_nat fr i (by omega)]; exact List.getElem_mem _)
                obtain ⟨x, hxe⟩ : ∃ x : Nat, rd fr (i : Int) = (x : Int) := ⟨(rd fr (i : Int)).toNat, by omega⟩
                rw [hxe] at hcell hx0 hx1
                have hst : Hid (finalR l fr = (fr.drop (i + 1)).foldl (fun r x => fr.foldl (fun r y => twoV r x y) r) ((fr.drop 0).foldl (fun r y => twoV r (x : Int) y) r)) := Lib.hid (by rw [hfin.out, drop_int fr i (by omega), hxe, List.foldl_cons]; rfl)
                clear hfin
                go_wp2
                go_loopw [64] (fun v wr => ∃ (j : Nat) (r : R3), j ≤ fr.length ∧ v = .int .i64 (j : Int) ∧ Hid (finalR l fr = (fr.drop (i + 1)).foldl (fun r x => fr.foldl (fun r y => twoV r x y) r) ((fr.drop j).foldl (fun r y => twoV r (x : Int) y) r)) ∧ BoxR wr g w.heap.size r ∧ l.length ≤ r.1.length ∧ r.1.length ≤ 400 + 4 * (5 + 5 * i + j) ∧ r.2.1.length ≤ 5 + 4 * (5 + 5 * i + j) ∧ wr.heap[w.heap.size]? = some (.cells #[.slice none 0 0, .slice none 0 0, .int .i64 0] 56 (0, 0)) ∧ Below w.heap.size w wr) (fun v _ => fr.length - (intOf v).toNat)
                case atStart => exact ⟨0, r, by omega, rfl, hst, hbx, hr0, by omega, by omega, hres, hB⟩
                case round =>
                  clear hst hbx hres hB hr0 hr1 hr2 hcell
                  obtain ⟨j, r, hj, rfl, hfin, hbx, hr0, hr1, hr2, hres, hB⟩ := hrel
                  by_cases hlt2 : (j : Int) < fr.length
                  · skip
                    obtain ⟨ad2, eA, hcell⟩ := Kd.at_int (Kd.C_below hF.out hB) (j : Int) (by omega) (by omega)
                    injection eA with eA
                    subst eA
                    rw [Int.toNat_natCast] at hcell
                    obtain ⟨hy0, hy1⟩ := inL_all hall.out (rd fr (j : Int)) (by rw [rdI_nat fr j (by omega)]; exact List.getElem_mem _)
                    obtain ⟨y, hye⟩ : ∃ y : Nat, rd fr (j : Int) = (y : Int) := ⟨(rd fr (j : Int)).toNat, by omega⟩
                    rw [hye] at hcell hy0 hy1
                    obtain ⟨r', hr'⟩ : ∃ z, twoV r (x : Int) (y : Int) = z := ⟨_, rfl⟩
                    have hl' := twoV_len r (x : Int) (y : Int)
                    rw [hr'] at hl'
                    obtain ⟨A, c, B, d, hbox, hcA, hdB, hCA, hPB, hrow⟩ := hbx
                    have hcall := twoV_calls r A c B d x y wr hcA hdB hCA hPB ⟨by omega, by omega⟩ (by omega) (by omega)
                    rw [hr'] at hcall
                    replace hcall := Aside0.mk hcall
                    obtain ⟨x0, x1, x2⟩ := box3 hbox
                    replace hl' := Lib.hid hl'
                    replace hr' := Lib.hid hr'
                    go_wp2_with fail
                    refine hcall.out.mono ?_; rintro e_ v1 ⟨⟨v_, rfl, A', c', B', d', rfl, g1, g2, g3, g4, g5⟩, hb1⟩
                    have hbox2 := (hb1.block _ (blk_lt hbox)).trans hbox
                    have hres2 := (hb1.block _ (blk_lt hres)).trans hres
                    have hB1 := below_step hB hb1
                    clear hcall x0 x1 x2 hbox hres hB hb1 hCA hPB hrow
                    go_wp2_with ((with_reducible refine gate_store (t := 56) (p := 7) rfl ?_); go_loud (refine wpList_storeBox rfl rfl 56 (.tmp 7) (.tmp 71) rfl (.agg #[.slice A' r'.1.length c', .slice B' r'.2.1.length d', .int .i64 r'.2.2]) [.slice A' r'.1.length c', .slice B' r'.2.1.length d', .int .i64 r'.2.2] rfl rfl rfl (by kernel_rfl) (by simp [Value.oneCell']) hbox2 rfl ?_); intro z1 hZ hgz hsz)
                    obtain ⟨f1, f2, f3⟩ := inR3_kept g1 g2 g3 g4 g5 (by simp) (by decide) hbox2 hgz
                    have hbx' : BoxR z1 g w.heap.size r' := ⟨A', c', B', d', hZ, g1, g2, f1, f2, fun ad e => .inr (f3 ad e)⟩
                    have hres' := (hgz.block _ (blk_lt hres2) (by simp; omega)).trans hres2
                    have hB' := hB1.grown hgz hB1.size (fun k hk => by injection hk; omega)
                    have hfin2 : Hid (finalR l fr = (fr.drop (i + 1)).foldl (fun r x => fr.foldl (fun r y => twoV r x y) r) ((fr.drop (j + 1)).foldl (fun r y => twoV r (x : Int) y) r')) := Lib.hid (by rw [hfin.out, drop_int fr j (by omega), hye, List.foldl_cons, hr'.out])
                    have hl := hl'.out
                    clear hfin hgz hsz hZ
                    go_roundw
                    case rel => exact ⟨j + 1, r', by omega, by go_num, hfin2, hbx', by omega, by omega, by omega, hres', hB'⟩
                    case measure => simp [intOf]; omega
                  · obtain rfl : j = fr.length := by omega
                    have hst : Hid (finalR l fr = (fr.drop (i + 1)).foldl (fun r x => fr.foldl (fun r y => twoV r x y) r) r) := Lib.hid (by rw [hfin.out, List.drop_length]; rfl)
                    clear hfin
                    go_wp2
                    go_roundw
                    case rel => exact ⟨i + 1, r, by omega, by go_num, hst, hbx, hr0, by omega, by omega, hres, hB⟩
                    case measure => simp [intOf]; omega
              · obtain rfl : i = fr.length := by omega
                have hfr : finalR l fr = r := by rw [hfin.out, List.drop_length]; rfl
                obtain ⟨A, c, B, d, hbox, hcA, hdB, hCA, hPB, hrow⟩ := hbx
                obtain ⟨x0, x1, x2⟩ := box3 hbox
                have hans : refR l fr = if r.2.2 = 0 then r else ([], [], r.2.2) := by
                  unfold refR
                  rw [if_pos hr, if_neg (by omega), if_pos hall.out, hfr]
                clear hfin hfr
                by_cases hq : r.2.2 = 0
                · rw [if_pos hq] at hans
                  have hq2 : (r.2.2 == 0) = true := beq_iff_eq.2 hq
                  replace hq := Lib.hid hq
                  replace hans := Lib.hid hans
                  go_wp2_with ((with_reducible refine gate_store (t := 56) (p := 4) rfl ?_); go_loud (refine wpList_storeBox rfl rfl 56 (.tmp 4) (.tmp 80) rfl (.agg #[.slice A r.1.length c, .slice B r.2.1.length d, .int .i64 r.2.2]) [.slice A r.1.length c, .slice B r.2.1.length d, .int .i64 r.2.2] rfl rfl rfl (by kernel_rfl) (by simp [Value.oneCell']) hres rfl ?_); intro z1 hZ hgz hsz)
                  obtain ⟨f1, f2, f3⟩ := inR_kept hCA hPB hrow (Nat.le_refl _) (by simp) (by decide) hres hgz
                  refine bodyPost_ret (results_cell_row rfl _ _ w.heap.size 56 _ (0, 0) _ rfl hZ Try.underlying56 rfl (by kernel_rfl)) rfl ?_
                  rw [hans.out]
                  exact ⟨⟨_, rfl, A, c, B, d, rfl, hcA, hdB, f1, f2⟩, hB.grown hgz hB.size (fun k hk => by injection hk; omega)⟩
                · rw [if_neg hq] at hans
                  have hq2 : (r.2.2 == 0) = false := beq_eq_false_iff_ne.2 hq
                  replace hans := Lib.hid hans
                  go_wp2_with ((with_reducible refine gate_store (t := 56) (p := 4) rfl ?_); go_loud (refine wpList_storeBox rfl rfl 56 (.tmp 4) (.tmp 79) rfl (.agg #[.slice none 0 0, .slice none 0 0, .int .i64 r.2.2]) [.slice none 0 0, .slice none 0 0, .int .i64 r.2.2] rfl rfl rfl (by kernel_rfl) (by simp [Value.oneCell']) hres rfl ?_); intro z1 hZ hgz hsz)
                  refine bodyPost_ret (results_cell_row rfl _ _ w.heap.size 56 _ (0, 0) _ rfl hZ Try.underlying56 rfl (by kernel_rfl)) rfl ?_
                  rw [hans.out]
                  exact ⟨⟨_, rfl, none, 0, none, 0, rfl, Nat.le_refl _, Nat.le_refl _, Kd.C_nil _ _, Kd.C_nil _ _⟩, hB.grown hgz hB.size (fun k hk => by injection hk; omega)⟩
end Go.Proofs.Ytenmmeehgnkcpaa.Q
