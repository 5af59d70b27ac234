/- deduce's next: the facts behind one step; of: the facts that places are known, or why there are none.
   Conditions: the list is read as terms whose numbers are of 64 bits, the places as ints. -/
import Derived.Test.YtenmmeehgnkcpaaHStep
import Derived.Test.YtenmmeehgnkcpaaHFacts
namespace Go.Proofs.Ytenmmeehgnkcpaa.Q
open Go.RowKit Go.Proofs.YtenmmeehgnkcpaaW.PrintWords Go.Proofs.YtenmmeehgnkcpaaW.PrintLast Go.Proofs.YtenmmeehgnkcpaaW.PrintMore
set_option linter.unusedVariables false
set_option linter.unusedSimpArgs false

/-! ### HGoes -/
abbrev boolsV (l : List Bool) : Array Value := (l.map Value.bool).toArray
abbrev falses (n : Nat) : Array Value := boolsV (List.replicate n false)
theorem two_new (W : World) (X Y : Obj) : ((W.alloc X).alloc Y).heap[W.heap.size]? = some X ∧ ((W.alloc X).alloc Y).heap[W.heap.size + 1]? = some Y := by
  have h := heap_alloc_new W X
  have hs : (W.alloc X).heap.size = W.heap.size + 1 := by simp
  refine ⟨((below_alloc (Below.refl (W.alloc X).heap.size (W.alloc X)) Y).block _ (by omega)).trans h, ?_⟩
  rw [← hs]
  exact heap_alloc_new _ _
theorem made_falses (n : Nat) : madeCells (Value.bool false).cells n = falses n := by
  apply Array.ext'
  unfold madeCells
  rw [Array.toList_map, Array.toList_range, List.toList_toArray, List.map_replicate, List.eq_replicate_iff]
  refine ⟨by simp, fun b hb => ?_⟩
  obtain ⟨i, _, rfl⟩ := List.mem_map.1 hb
  simp [Value.cells, Nat.mod_one]
theorem made_bools (W : World) (n : Nat) (hn : n ≤ 1000000) : (Instr.makeSlice 78 (.int .i64 (n : Int)) (.int .i64 (n : Int))).run Try.prog W = .ok (.slice (some ⟨W.heap.size, 0, none⟩) n n) (W.alloc (.cells (falses n) 4 (0, 0))) := by
  obtain ⟨i0, hi, hzz⟩ := Option.map_eq_some_iff.1 (show (Try.prog.info? 4).map (fun i => (i.zero, i.size, i.bytes)) = some (some (.bool false), 1, 1) from by kernel_rfl)
  simp only [Prod.mk.injEq] at hzz
  obtain ⟨hz0, hz1, hz2⟩ := hzz
  have h := run_make (P := Try.prog) W 78 4 i0 (.bool false) (by kernel_rfl) hi hz0 .i64 .i64 (n : Int) (n : Int) (by omega) (by omega) (by rw [hz2]; omega) (by omega)
  rw [Int.toNat_natCast, hz1, Nat.mul_one, made_falses] at h
  exact h
theorem skip_storeAt {P : Program} {ops : Array Oper} {Q : Exit → Act → World → Prop} {oi : Oper} {a : Act} {W : World} {K : Act → World → Prop} (hw : Region.wanted oi (yielded ops a.tmps) = true) (hN : oi.dst = none) (t : TypeId) (p x : Operand) (ho : oi.op = .store t p x) {g : Nat} (j : Nat) {e : TypeId} {cur : Array Value} (u : Value)
    (haddr : a.eval p = .pointer (some ⟨g, j, none⟩)) (hx : a.eval x = u) (hu : u.cells.toList = [u]) (ht : (P.info? t).map (·.size) = some 1) (h1 : u.oneCell' = true)
    (hh : W.heap[g]? = some (.cells cur e (0, 0))) (hl : j + 1 ≤ cur.size)
    (h : ∀ W', W'.heap[g]? = some (.cells (cur.toList.take j ++ [u] ++ cur.toList.drop (j + 1)).toArray e (0, 0)) → W.grownBy W' (some g) → W'.heap.size = W.heap.size → K a W') :
    if Region.wanted oi (yielded ops a.tmps) = true then Oper.wp P oi a W K Q else K (a.put none undef) W := by
  obtain ⟨b1, b2, b3⟩ := setCells_field W cur _ u hh hl rfl
  refine skip_ hw hN ?_ (h _ b1 b2 b3)
  have hrun := run_store_run (P := P) (w := W) (g := g) (o := j) t u [u] hh hu ht (by simpa using hl) (by simpa using h1)
  unfold execOp
  simp only [ho, haddr, hx, Sem.run_bind, Sem.run_pure, Result.andThen_ok, hrun]
/-- The places that were told so far, the others as they were. -/
def toldTo (l : List S28) (is : List Bool) (i : Nat) : List Bool := (List.range l.length).map fun j : Nat => decide (j < i) && toldB l is (j : Int)
def nextB (l : List S28) (is : List Bool) : List Bool := (List.range l.length).map fun j : Nat => toldB l is (j : Int)
theorem toldTo_zero (l : List S28) (is : List Bool) : toldTo l is 0 = List.replicate l.length false := by
  unfold toldTo
  rw [List.eq_replicate_iff]
  refine ⟨by simp, fun b hb => ?_⟩
  obtain ⟨j, _, rfl⟩ := List.mem_map.1 hb
  rw [decide_eq_false (Nat.not_lt_zero j)]
  rfl
theorem toldTo_all (l : List S28) (is : List Bool) : toldTo l is l.length = nextB l is := by
  unfold toldTo nextB
  refine List.map_congr_left fun j hj => ?_
  rw [decide_eq_true (List.mem_range.1 hj), Bool.true_and]
theorem toldTo_len (l : List S28) (is : List Bool) (i : Nat) : (toldTo l is i).length = l.length := by simp [toldTo]
theorem nextB_len (l : List S28) (is : List Bool) : (nextB l is).length = l.length := by simp [nextB]
theorem bools_set (l : List Bool) (i : Nat) (b : Bool) (h : i < l.length) : ((boolsV l).toList.take i ++ [Value.bool b] ++ (boolsV l).toList.drop (i + 1)).toArray = boolsV (l.set i b) := by
  apply Array.ext'
  simp only [boolsV, List.toList_toArray]
  rw [List.set_eq_take_append_cons_drop, if_pos h, List.map_append, List.map_cons, List.map_take, List.map_drop, List.append_assoc]
  rfl
theorem toldTo_step (l : List S28) (is : List Bool) (i : Nat) (h : i < l.length) : (toldTo l is i).set i (toldB l is (i : Int)) = toldTo l is (i + 1) := by
  refine List.ext_getElem (by simp [toldTo]) fun j h1 h2 => ?_
  rw [List.getElem_set]
  simp only [toldTo, List.getElem_map, List.getElem_range]
  by_cases e : i = j
  · subst e
    rw [if_pos rfl, decide_eq_true (Nat.lt_succ_self _), Bool.true_and]
  · rw [if_neg e]
    congr 1
    by_cases hj : j < i
    · rw [decide_eq_true hj, decide_eq_true (by omega)]
    · rw [decide_eq_false hj, decide_eq_false (by omega)]
theorem bools_cells (W : World) (g : Nat) (bs : List Bool) (hl : bs.length ≤ 1000000) (hK : W.heap[g]? = some (.cells (boolsV bs) 4 (0, 0))) : Kd.C Kd.bool W (some ⟨g, 0, none⟩) bs.length bs := by
  refine ⟨rfl, by omega, fun _ => ⟨_, rfl, fun j p hj => ?_⟩⟩
  refine ⟨[.bool p], rfl, rfl, fun i u hu => ?_⟩
  obtain ⟨rfl, rfl⟩ : i = 0 ∧ u = .bool p := by
    rcases i with _ | i
    · exact ⟨rfl, by simpa using hu.symm⟩
    · simp at hu
  have e : 0 + (j * Kd.bool.sz + 0) = j := by
    have : Kd.bool.sz = 1 := rfl
    rw [this]
    omega
  rw [Addr.add_lit, e, blk_cell hK]
  obtain ⟨hj1, hj2⟩ := List.getElem?_eq_some_iff.1 hj
  simp [boolsV, hj2, hj1]
set_option maxHeartbeats 2000000 in
set_option maxRecDepth 100000 in
theorem next_calls (A : Option Addr) (c : Nat) (l : List S28) (B : Option Addr) (d : Nat) (is : List Bool) (w : World) (hF : FS A c l B d is w) (hr : rangeT l) :
    Calls Try.prog 48 #[fv A l.length c B l.length d] w fun e w' => (∃ gi, e = .returned (fv A l.length c (some ⟨gi, 0, none⟩) l.length l.length) ∧ (w.heap.size ≤ gi ∧ w'.heap[gi]? = some (.cells (boolsV (nextB l is)) 4 (0, 0))) ∧ FS A c l (some ⟨gi, 0, none⟩) l.length (nextB l is) w') ∧ Below w.heap.size w w' := by
  obtain ⟨w1, hw1⟩ : ∃ w1, w.alloc (.cells #[.slice A l.length c, .slice B l.length d] 80 (0, 0)) = w1 := ⟨_, rfl⟩
  have hb1 : Below w.heap.size w w1 := by rw [← hw1]; exact below_alloc (Below.refl _ _) _
  have hK1 : w1.heap[w.heap.size]? = some (.cells #[.slice A l.length c, .slice B l.length d] 80 (0, 0)) := by rw [← hw1]; exact heap_alloc_new _ _
  have hs1 : w1.heap.size = w.heap.size + 1 := by rw [← hw1]; simp
  obtain ⟨w2, hw2⟩ : ∃ w2, w1.alloc (.cells #[.slice none 0 0, .slice none 0 0] 80 (0, 0)) = w2 := ⟨_, rfl⟩
  have hb2 : Below w1.heap.size w1 w2 := by rw [← hw2]; exact below_alloc (Below.refl _ _) _
  have hs2 : w2.heap.size = w.heap.size + 2 := by rw [← hw2]; simp [hs1]
  have hK2 : w2.heap[w.heap.size + 1]? = some (.cells #[.slice none 0 0, .slice none 0 0] 80 (0, 0)) := by rw [← hs1, ← hw2]; exact heap_alloc_new _ _
  have hK12 := (hb2.block _ (blk_lt hK1)).trans hK1
  have hB2 := below_step hb1 hb2
  have hlen := hF.hl
  have hq : Hid (∀ W, Below w2.heap.size w2 W → W.cell? ⟨w.heap.size, 0, none⟩ = some (.slice A l.length c)) := Lib.hid fun W hW => (box2 ((hW.block _ (blk_lt hK12)).trans hK12)).1
  have hmk := fun W => made_bools W l.length hlen
  have hcall : Hid (∀ W, Below w2.heap.size w2 W → ∀ i : Nat, i < l.length → Calls Try.prog 64 #[fv A l.length c B l.length d, .int .i64 (i : Int)] W fun e w' => e = .returned (.bool (toldB l is (i : Int))) ∧ Below W.heap.size W w') := Lib.hid fun W hW i hi => told_calls A c l B d is i W (hF.below (below_step hB2 hW)) (by omega) (by omega) hr
  replace hF := Aside0.mk hF
  replace hr := Lib.hid hr
  replace hK12 := Aside0.mk hK12
  replace hK2 := Aside0.mk hK2
  clear hK1
  replace hs2 := Lib.hid hs2
  go_enter Try.func48, Try.ntmps48
  go_wp2
  refine start_ (n := 9) (S := fun w' => w'.cell? ⟨w.heap.size, 0, none⟩ = some (.slice A l.length c)) (ds := [8]) #[false, false, false, false, false, false, false, false, false] (by kernel_rfl) rfl rfl ((hq.out _ (Below.refl w2.heap.size w2).drew)) (fun hHeld => ?_)
  refine p_ 0 (some 5) #[true, false, false, false, false, false, false, false, false] ?_
  refine p_ 2 (some 7) #[true, false, true, false, false, false, false, false, false] ?_
  refine t_ 1 (some 6) #[true, true, true, false, false, false, false, false, false] hHeld (hv := by intro w' s0; go_simp; with_reducible rfl) (h := ?_)
  refine t_ 3 (some 8) #[true, true, true, true, false, false, false, false, false] hHeld (hv := by intro w' s0; go_simp; with_reducible rfl) (h := ?_)
  refine p_ 4 (some 9) #[true, true, true, true, true, false, false, false, false] ?_
  refine join_ (σ := Nat × Nat) 1 #[true, true, true, true, true, true, true, true, false] (fun s_ => [(10, .slice (some ⟨s_.1, 0, none⟩) l.length l.length), (3, .pointer (some ⟨s_.2, 0, none⟩)), (11, .agg #[.slice A l.length c, .slice (some ⟨s_.1, 0, none⟩) l.length l.length])]) (fun s_ w' => w'.cell? ⟨w.heap.size, 0, none⟩ = some (.slice A l.length c) ∧ w'.heap[s_.1]? = some (.cells (falses l.length) 4 (0, 0)) ∧ w'.heap[s_.2]? = some (.cells #[.slice none 0 0, .slice none 0 0] 80 (0, 0)) ∧ s_.1 ≠ s_.2 ∧ w2.heap.size ≤ s_.1 ∧ w2.heap.size ≤ s_.2 ∧ Below w2.heap.size w2 w') ?_ ?_
  rotate_left
  · intro hCont
    refine two_ (i := 5) (j := 7) (Ni := some 10) (Nj := some 3) #[true, true, true, true, true, true, false, false, false] #[true, true, true, true, true, false, false, true, false] rfl rfl rfl rfl (by kernel_rfl) (by decide) (by decide) (fun K hK => ?_) (fun K hK => ?_)
    · skip
      refine value_ (w1 := ?_) (v := ?_) (by rfl) rfl ?_ ?_
      rotate_left 2
      · go_simp
        constructor
        · rfl
        · rfl
      have hbc := (Below.refl w2.heap.size w2).drew
      have hbc := below_alloc hbc (.cells (falses l.length) 4 (0, 0))
      refine hK.out _ _ ((hq.out _ hbc)) (fun hHeld => ?_)
      clear hK K
      refine norm_ (a' := ?_) ?_ ?_
      rotate_left
      · show Act.put _ (some 10) _ = _
        simp only [Act.put, List.setIfInBounds_toArray, List.set_cons_zero, List.set_cons_succ, i64_w, i32_w]
        rfl
      refine p_ 6 (some 11) #[true, true, true, true, true, true, true, false, false] ?_
      refine one_ (i := 7) (N := some 3) #[true, true, true, true, true, true, true, true, false] rfl rfl (by kernel_rfl) (by decide) (fun K hK => ?_)
      refine value_ (w1 := ?_) (v := ?_) (by rfl) rfl ?_ ?_
      rotate_left 2
      · go_simp
        constructor
        · rfl
        · rfl
      have hbc := below_alloc hbc (.cells #[.slice none 0 0, .slice none 0 0] 80 (0, 0))
      refine hK.out _ _ ((hq.out _ hbc)) (fun hHeld => ?_)
      clear hK K
      refine norm_ (a' := ?_) ?_ ?_
      rotate_left
      · show Act.put _ (some 3) _ = _
        simp only [Act.put, List.setIfInBounds_toArray, List.set_cons_zero, List.set_cons_succ, i64_w, i32_w]
        rfl
      exact norm_ (by simp only [putAll, Act.put, List.setIfInBounds_toArray, List.set_cons_zero, List.set_cons_succ]) (hCont (w2.heap.size, w2.heap.size + 1) _ ⟨hq.out _ hbc, (two_new w2.drew _ _).1, (two_new w2.drew _ _).2, by simp, by simp, by simp, hbc⟩)
    · skip
      refine value_ (w1 := ?_) (v := ?_) (by rfl) rfl ?_ ?_
      rotate_left 2
      · go_simp
        constructor
        · rfl
        · rfl
      have hbc := (Below.refl w2.heap.size w2).drew
      have hbc := below_alloc hbc (.cells #[.slice none 0 0, .slice none 0 0] 80 (0, 0))
      refine hK.out _ _ ((hq.out _ hbc)) (fun hHeld => ?_)
      clear hK K
      refine norm_ (a' := ?_) ?_ ?_
      rotate_left
      · show Act.put _ (some 3) _ = _
        simp only [Act.put, List.setIfInBounds_toArray, List.set_cons_zero, List.set_cons_succ, i64_w, i32_w]
        rfl
      refine one_ (i := 5) (N := some 10) #[true, true, true, true, true, true, false, true, false] rfl rfl (by kernel_rfl) (by decide) (fun K hK => ?_)
      refine value_ (w1 := ?_) (v := ?_) (by rfl) rfl ?_ ?_
      rotate_left 2
      · go_simp
        constructor
        · rfl
        · rfl
      have hbc := below_alloc hbc (.cells (falses l.length) 4 (0, 0))
      refine hK.out _ _ ((hq.out _ hbc)) (fun hHeld => ?_)
      clear hK K
      refine norm_ (a' := ?_) ?_ ?_
      rotate_left
      · show Act.put _ (some 10) _ = _
        simp only [Act.put, List.setIfInBounds_toArray, List.set_cons_zero, List.set_cons_succ, i64_w, i32_w]
        rfl
      refine p_ 6 (some 11) #[true, true, true, true, true, true, true, true, false] ?_
      exact norm_ (by simp only [putAll, Act.put, List.setIfInBounds_toArray, List.set_cons_zero, List.set_cons_succ]) (hCont (w2.heap.size + 1, w2.heap.size) _ ⟨hq.out _ hbc, (two_new w2.drew _ _).2, (two_new w2.drew _ _).1, by simp, by simp, by simp, hbc⟩)
  rintro ⟨gi, gb⟩ w3 ⟨hs3, hrow3, hbox3, hne, hgi, hgb, hb3⟩
  have hHeld : w3.cell? ⟨w.heap.size, 0, none⟩ = some (.slice A l.length c) := hs3
  replace hrow3 : w3.heap[gi]? = some (.cells (falses l.length) 4 (0, 0)) := hrow3
  replace hbox3 : w3.heap[gb]? = some (.cells #[.slice none 0 0, .slice none 0 0] 80 (0, 0)) := hbox3
  replace hne : gi ≠ gb := hne
  replace hgi : w2.heap.size ≤ gi := hgi
  replace hgb : w2.heap.size ≤ gb := hgb
  refine norm_ (a' := ?_) ?_ ?_
  rotate_left
  · simp only [putAll, Act.put, List.setIfInBounds_toArray, List.set_cons_zero, List.set_cons_succ]
    rfl
  refine last_ (i := 8) (N := none) #[true, true, true, true, true, true, true, true, true] rfl rfl (by kernel_rfl) (by decide) (fun K hK => ?_)
  refine skip_storeBox (by rfl) rfl 80 (.tmp 3) (.tmp 11) rfl (.agg #[.slice A l.length c, .slice (some ⟨gi, 0, none⟩) l.length l.length]) [.slice A l.length c, .slice (some ⟨gi, 0, none⟩) l.length l.length] rfl rfl rfl (by kernel_rfl) (by simp [Value.oneCell']) hbox3 rfl ?_
  intro w4 hK4 hg4 hs4
  refine hK.out _ _ ?_
  clear hK K
  refine done_ (by kernel_rfl) ?_
  have hR4 : w4.heap[gi]? = some (.cells (falses l.length) 4 (0, 0)) := (hg4.block _ (blk_lt hrow3) (fun e => hne (by injection e))).trans hrow3
  have hb4 : Below w2.heap.size w2 w4 := hb3.grown hg4 hb3.size (fun k hk => by injection hk with hk; omega)
  replace hb4 := Aside0.mk hb4
  replace hne := Lib.hid hne
  replace hgi := Lib.hid hgi
  replace hgb := Lib.hid hgb
  clear hHeld hs3 hrow3 hbox3 hb3 hg4 hs4 hmk
  have z0 := hq.out _ hb4.out
  go_wp2
  go_loopw [15] (fun v wr => ∃ i : Nat, i ≤ l.length ∧ v = .int .i64 (i : Int) ∧ wr.heap[gi]? = some (.cells (boolsV (toldTo l is i)) 4 (0, 0)) ∧ wr.heap[gb]? = some (.cells #[.slice A l.length c, .slice (some ⟨gi, 0, none⟩) l.length l.length] 80 (0, 0)) ∧ Below w2.heap.size w2 wr) (fun v _ => l.length - (intOf v).toNat)
  case atStart => exact ⟨0, by omega, rfl, by rw [toldTo_zero]; exact hR4, hK4, hb4.out⟩
  case round =>
    obtain ⟨i, hi, rfl, hrow, hbox, hB⟩ := hrel
    have hBw := Aside0.mk hB
    have hK1r := (hB.block _ (blk_lt hK12.out)).trans hK12.out
    by_cases hlt : (i : Int) < l.length
    · have hq5 : Hid (∀ W, Below wr.heap.size wr W → W.cell? ⟨gb, 1, none⟩ = some (.slice (some ⟨gi, 0, none⟩) l.length l.length) ∧ W.cell? ⟨w.heap.size, 0, none⟩ = some (.slice A l.length c) ∧ W.cell? ⟨w.heap.size, 1, none⟩ = some (.slice B l.length d)) := Lib.hid fun W hW => ⟨(box2 ((hW.block _ (blk_lt hbox)).trans hbox)).2, box2 ((hW.block _ (blk_lt hK1r)).trans hK1r)⟩
      have hc5 : Hid (∀ W, Below wr.heap.size wr W → Calls Try.prog 64 #[fv A l.length c B l.length d, .int .i64 (i : Int)] W fun e w' => e = .returned (.bool (toldB l is (i : Int))) ∧ Below W.heap.size W w') := Lib.hid fun W hW => hcall.out W (below_step hB hW) i (by omega)
      have hwn : wrap64 ((i : Int) + 1) = ((i + 1 : Nat) : Int) := nx i (by omega)
      have hilt : i < l.length := by omega
      replace hrow := Aside0.mk hrow
      replace hbox := Aside0.mk hbox
      clear hR4 hK4 hK1r hB
      go_wp2
      refine start_ (n := 8) (S := fun w' => w'.cell? ⟨gb, 1, none⟩ = some (.slice (some ⟨gi, 0, none⟩) l.length l.length) ∧ w'.cell? ⟨w.heap.size, 0, none⟩ = some (.slice A l.length c) ∧ w'.cell? ⟨w.heap.size, 1, none⟩ = some (.slice B l.length d)) (ds := [7]) #[false, false, false, false, false, false, false, false] (by kernel_rfl) rfl rfl ⟨(hq5.out _ (Below.refl wr.heap.size wr).drew).1, (hq5.out _ (Below.refl wr.heap.size wr).drew).2.1, (hq5.out _ (Below.refl wr.heap.size wr).drew).2.2⟩ (fun hHeld => ?_)
      refine p_ 0 (some 18) #[true, false, false, false, false, false, false, false] ?_
      refine p_ 2 (some 20) #[true, false, true, false, false, false, false, false] ?_
      refine p_ 4 (some 22) #[true, false, true, false, true, false, false, false] ?_
      refine t_ 1 (some 19) #[true, true, true, false, true, false, false, false] hHeld (hv := by rintro w' ⟨s0, s1, s2⟩; go_simp; with_reducible rfl) (h := ?_)
      refine t_ 3 (some 21) #[true, true, true, true, true, false, false, false] hHeld (hv := by rintro w' ⟨s0, s1, s2⟩; go_simp; with_reducible rfl) (h := ?_)
      refine one_ (i := 5) (N := some 23) #[true, true, true, true, true, true, false, false] rfl rfl (by kernel_rfl) (by decide) (fun K hK => ?_)
      refine goes_ Try.func64 (by kernel_rfl) rfl #[fv A l.length c B l.length d, .int .i64 (i : Int)] (by rfl) rfl rfl (by simp only [List.map_toArray, List.map_cons, List.map_nil]; rfl) ?_
      with_reducible refine (hc5.out _ (Below.refl wr.heap.size wr).drew).mono ?_
      rintro e wq ⟨rfl, hbq⟩
      refine ⟨_, rfl, ?_⟩
      have hbq := below_step (Below.refl wr.heap.size wr).drew hbq
      refine hK.out _ _ ⟨(hq5.out _ hbq).1, (hq5.out _ hbq).2.1, (hq5.out _ hbq).2.2⟩ (fun hHeld => ?_)
      clear hK K
      refine norm_ (a' := ?_) ?_ ?_
      rotate_left
      · show Act.put _ (some 23) _ = _
        simp only [Act.put, List.setIfInBounds_toArray, List.set_cons_zero, List.set_cons_succ, i64_w, i32_w]
        rfl
      refine p_ 6 (some 24) #[true, true, true, true, true, true, true, false] ?_
      refine last_ (i := 7) (N := none) #[true, true, true, true, true, true, true, true] rfl rfl (by kernel_rfl) (by decide) (fun K hK => ?_)
      refine skip_storeAt (by rfl) rfl 4 (.tmp 24) (.tmp 23) rfl i (.bool (toldB l is (i : Int))) rfl rfl rfl (by kernel_rfl) rfl ((hbq.block _ (blk_lt hrow.out)).trans hrow.out) (by simp [toldTo_len]; omega) ?_
      intro w6 hK6 hg6 hs6
      refine hK.out _ _ ?_
      clear hK K
      refine done_ (by kernel_rfl) ?_
      rw [bools_set _ _ _ (by rw [toldTo_len]; exact hilt), toldTo_step l is i hilt] at hK6
      have hB6 : Below w2.heap.size w2 w6 := (below_step hBw.out hbq).grown hg6 (below_step hBw.out hbq).size (fun k hk => by injection hk with hk; have := hgi.out; omega)
      have hbx6 := (hg6.block _ (blk_lt ((hbq.block _ (blk_lt hbox.out)).trans hbox.out)) (fun e => hne.out (by injection e with e; exact e.symm))).trans ((hbq.block _ (blk_lt hbox.out)).trans hbox.out)
      clear hq5 hc5 hHeld hbq hg6 hs6 hrow hbox
      replace hK6 := Aside0.mk hK6
      replace hbx6 := Aside0.mk hbx6
      replace hB6 := Aside0.mk hB6
      go_wp2
      go_roundw
      case rel => exact ⟨i + 1, by omega, by go_num, hK6.out, hbx6.out, hB6.out⟩
      case measure => simp [intOf]; omega
    · obtain rfl : i = l.length := by omega
      rw [toldTo_all] at hrow
      obtain ⟨x0, x1⟩ := box2 hbox
      have hKr := (hB.block _ (blk_lt hK2.out)).trans hK2.out
      replace hrow := Aside0.mk hrow
      replace hbox := Aside0.mk hbox
      replace hne := Aside0.mk (show gi ≠ w.heap.size + 1 from by have := hgi.out; have := hs2.out; omega)
      clear hB hK1r hR4 hK4
      go_wp2_with ((with_reducible refine gate_store (t := 80) (p := 2) rfl ?_); go_loud (refine wpList_storeBox rfl rfl 80 (.tmp 2) (.tmp 26) rfl (fv A l.length c (some ⟨gi, 0, none⟩) l.length l.length) [.slice A l.length c, .slice (some ⟨gi, 0, none⟩) l.length l.length] rfl rfl rfl (by kernel_rfl) (by simp [Value.oneCell']) hKr rfl ?_); intro w6 hK6 hg6 hs6; clear x0 x1; obtain ⟨x0, x1⟩ := box2 hK6)
      have hB6 : Below w.heap.size w w6 := (below_step hB2 hBw.out).grown hg6 (below_step hB2 hBw.out).size (fun k hk => by injection hk with hk; omega)
      have hrow6 := (hg6.block _ (blk_lt hrow.out) (fun e => hne.out (by injection e))).trans hrow.out
      have hC := bools_cells w6 gi (nextB l is) (by rw [nextB_len]; exact hlen) hrow6
      rw [nextB_len] at hC
      have hFin : Aside0 (FS A c l (some ⟨gi, 0, none⟩) l.length (nextB l is) w6) := Aside0.mk ⟨Kd.C_below hF.out.hC hB6, hC, nextB_len l is, hF.out.hc, Nat.le_refl _, hlen⟩
      replace hB6 := Aside0.mk hB6
      replace hK6 := Aside0.mk hK6
      have hnew := Aside0.mk (show w.heap.size ≤ gi ∧ w6.heap[gi]? = some (.cells (boolsV (nextB l is)) 4 (0, 0)) from ⟨by have := hgi.out; have := hs2.out; omega, hrow6⟩)
      clear hC hrow6 hg6 hKr hrow hbox
      go_wp2
      refine bodyPost_ret (results_cell_row rfl _ _ (w.heap.size + 1) 80 _ (0, 0) _ rfl hK6.out Try.underlying80 rfl (by kernel_rfl)) rfl ?_
      exact ⟨⟨gi, rfl, hnew.out, hFin.out⟩, hB6.out⟩

/-! ### HOf -/
def inL (n : Nat) (k : Int) : Bool := decide (0 ≤ k) && decide (k < n)
def hasN (ks : List Int) (j : Int) : Bool := ks.any fun k => k == j
def ofL (n : Nat) (ks : List Int) : List Bool := (List.range n).map fun j : Nat => hasN ks (j : Int)
def whyD (l : List S28) (ks : List Int) : Int := if rightB l = true then (if (ks.all (inL l.length)) = true then 0 else 5) else 1
theorem ofL_len (n : Nat) (ks : List Int) : (ofL n ks).length = n := by simp [ofL]
theorem ofL_nil (n : Nat) : ofL n [] = List.replicate n false := by
  unfold ofL
  rw [List.eq_replicate_iff]
  refine ⟨by simp, fun b hb => ?_⟩
  obtain ⟨j, _, rfl⟩ := List.mem_map.1 hb
  rfl
theorem ofL_step (n : Nat) (ks : List Int) (k : Int) (h0 : 0 ≤ k) (h1 : k < n) : (ofL n ks).set k.toNat true = ofL n (ks ++ [k]) := by
  refine List.ext_getElem (by simp [ofL]) fun j h1 h2 => ?_
  rw [List.getElem_set]
  simp only [ofL, hasN, List.getElem_map, List.getElem_range, List.any_append, List.any_cons, List.any_nil, Bool.or_false]
  by_cases e : k.toNat = j
  · rw [if_pos e, show (k == (j : Int)) = true from beq_iff_eq.2 (by omega), Bool.or_true]
  · rw [if_neg e, show (k == (j : Int)) = false from beq_eq_false_iff_ne.2 (by omega), Bool.or_false]
theorem take_snoc (ks : List Int) (i : Nat) (h : i < ks.length) : ks.take (i + 1) = ks.take i ++ [rd ks (i : Int)] := by
  rw [List.take_add_one]
  congr 1
  simp [rd, rdOf, h]
def ErrF (A : Option Addr) (c : Nat) (l : List S28) (ks : List Int) (e : Ending) (w' : World) : Prop :=
  (whyD l ks ≠ 0 ∧ e = .returned (.tuple #[fv none 0 0 none 0 0, .int .i64 (whyD l ks)])) ∨
  (whyD l ks = 0 ∧ ∃ gi, e = .returned (.tuple #[fv A l.length c (some ⟨gi, 0, none⟩) l.length l.length, .int .i64 0]) ∧ FS A c l (some ⟨gi, 0, none⟩) l.length (ofL l.length ks) w')
theorem rd_nat (ks : List Int) (i : Nat) (h : i < ks.length) : rd ks (i : Int) = ks[i] := by simp [rd, rdOf, h]
theorem why_no {l : List S28} {ks : List Int} (hr : rightB l = true) (i : Nat) (hi : i < ks.length) (h : inL l.length (rd ks (i : Int)) = false) : whyD l ks = 5 := by
  unfold whyD
  rw [if_pos hr, if_neg]
  intro hall
  rw [rd_nat ks i hi] at h
  have := List.all_eq_true.1 hall ks[i] (List.getElem_mem hi)
  rw [h] at this
  cases this
theorem why_yes {l : List S28} {ks : List Int} (hr : rightB l = true) (h : ∀ j : Nat, j < ks.length → inL l.length (rd ks (j : Int)) = true) : whyD l ks = 0 := by
  unfold whyD
  rw [if_pos hr, if_pos]
  rw [List.all_eq_true]
  intro k hk
  obtain ⟨j, hj, rfl⟩ := List.getElem_of_mem hk
  rw [← rd_nat ks j hj]
  exact h j hj
set_option maxHeartbeats 2000000 in
set_option maxRecDepth 100000 in
theorem of_calls (A : Option Addr) (c : Nat) (l : List S28) (K : Option Addr) (ck : Nat) (ks : List Int) (w : World) (hC : k28.C w A l.length l) (hc : l.length ≤ c) (hlen : l.length ≤ 1000000) (hwf : ∀ t ∈ l, wfT t)
    (hK : (Kd.int .i64).C w K ks.length ks) (hck : ks.length ≤ ck) (hkl : ks.length ≤ 1000000) :
    Calls Try.prog 47 #[.slice A l.length c, .slice K ks.length ck] w fun e w' => ErrF A c l ks e w' ∧ Below w.heap.size w w' := by
  obtain ⟨w1, hw1⟩ : ∃ w1, w.alloc (.cells #[.slice none 0 0, .slice none 0 0] 80 (0, 0)) = w1 := ⟨_, rfl⟩
  have hb1 : Below w.heap.size w w1 := by rw [← hw1]; exact below_alloc (Below.refl _ _) _
  have hK1 : w1.heap[w.heap.size]? = some (.cells #[.slice none 0 0, .slice none 0 0] 80 (0, 0)) := by rw [← hw1]; exact heap_alloc_new _ _
  have hs1 : w1.heap.size = w.heap.size + 1 := by rw [← hw1]; simp
  have hmk := fun W => made_bools W l.length hlen
  have hcall := Aside0.mk (right_calls A c l w1 (Kd.C_below hC hb1) hc hlen hwf)
  obtain ⟨rb, hrb⟩ : ∃ b, rightB l = b := ⟨_, rfl⟩
  rw [hrb] at hcall
  replace hrb := Lib.hid hrb
  replace hC := Aside0.mk hC
  replace hK := Aside0.mk hK
  clear hwf
  go_enter Try.func47, Try.ntmps47
  go_wp2_with fail
  refine hcall.out.mono ?_; rintro e_ w2 ⟨rfl, hb2⟩
  have hK2 := (hb2.block _ (blk_lt hK1)).trans hK1
  have hB2 := Aside0.mk (below_step hb1 hb2)
  have hs2 := Lib.hid (show w.heap.size < w2.heap.size from by have := hb2.size; omega)
  clear hcall hb2 hK1 hb1 hs1
  replace hK2 := Aside0.mk hK2
  cases rb with
  | false =>
    have hwhy := Lib.hid (show whyD l ks = 1 from by unfold whyD; rw [hrb.out]; rfl)
    clear hmk
    have hKr := hK2.out
    go_wp2_with ((with_reducible refine gate_store (t := 80) (p := 4) rfl ?_); go_loud (refine wpList_storeBox rfl rfl 80 (.tmp 4) (.tmp 12) rfl (fv none 0 0 none 0 0) [.slice none 0 0, .slice none 0 0] rfl rfl rfl (by kernel_rfl) (by simp [Value.oneCell']) hKr rfl ?_); intro w3 hK3 hg3 hs3)
    have hB3 := Aside0.mk (hB2.out.grown hg3 hB2.out.size (fun k hk => by injection hk with hk; omega))
    replace hK3 := Aside0.mk hK3
    clear hg3 hs3 hKr
    go_wp2
    refine bodyPost_ret (results_ct rfl _ _ w.heap.size 80 _ (0, 0) _ rfl hK3.out Try.underlying80 rfl (by kernel_rfl)) rfl ?_
    exact ⟨.inl ⟨by rw [hwhy.out]; decide, by rw [hwhy.out]; rfl⟩, hB3.out⟩
  | true =>
    obtain ⟨w3, hw3⟩ : ∃ w3, w2.alloc (.cells (falses l.length) 4 (0, 0)) = w3 := ⟨_, rfl⟩
    have hb3 : Below w2.heap.size w2 w3 := by rw [← hw3]; exact below_alloc (Below.refl _ _) _
    have hR3 : w3.heap[w2.heap.size]? = some (.cells (falses l.length) 4 (0, 0)) := by rw [← hw3]; exact heap_alloc_new _ _
    have hs3 : w3.heap.size = w2.heap.size + 1 := by rw [← hw3]; simp
    obtain ⟨w4, hw4⟩ : ∃ w4, w3.alloc (.cells #[.slice none 0 0, .slice none 0 0] 80 (0, 0)) = w4 := ⟨_, rfl⟩
    have hb4 : Below w3.heap.size w3 w4 := by rw [← hw4]; exact below_alloc (Below.refl _ _) _
    have hK4 : w4.heap[w2.heap.size + 1]? = some (.cells #[.slice none 0 0, .slice none 0 0] 80 (0, 0)) := by rw [← hs3, ← hw4]; exact heap_alloc_new _ _
    have hR4 := (hb4.block _ (blk_lt hR3)).trans hR3
    have hB4 := below_step (below_step hB2.out hb3) hb4
    have hr4 := ((below_step hb3 hb4).block _ (blk_lt hK2.out)).trans hK2.out
    clear hR3
    replace hR4 := Aside0.mk hR4
    replace hr4 := Aside0.mk hr4
    obtain ⟨gi, hgi⟩ : ∃ g, w2.heap.size = g := ⟨_, rfl⟩
    have hmk2 := hmk w2
    rw [hw3, hgi] at hmk2
    rw [hgi] at hK4 hR4 hs2 hs3
    clear hmk
    go_wp2_with ((with_reducible refine gate_store (t := 80) (p := 6) rfl ?_); go_loud (refine wpList_storeBox rfl rfl 80 (.tmp 6) (.tmp 17) rfl (fv A l.length c (some ⟨gi, 0, none⟩) l.length l.length) [.slice A l.length c, .slice (some ⟨gi, 0, none⟩) l.length l.length] rfl rfl rfl (by kernel_rfl) (by simp [Value.oneCell']) hK4 rfl ?_); intro w5 hK5 hg5 hs5)
    have hB5 := hB4.grown hg5 hB4.size (fun k hk => by injection hk with hk; have := hs2.out; omega)
    have hR5 := (hg5.block _ (blk_lt hR4.out) (fun e => by injection e with e; omega)).trans hR4.out
    have hr5 := (hg5.block _ (blk_lt hr4.out) (fun e => by injection e with e; have := hs2.out; omega)).trans hr4.out
    replace hB5 := Aside0.mk hB5
    replace hR5 := Aside0.mk hR5
    replace hr5 := Aside0.mk hr5
    replace hK5 := Aside0.mk hK5
    clear hg5 hs5 hB4 hR4 hr4 hK4 hb3 hb4 hmk2
    have hx := hB5.out
    go_wp2
    go_loopw [20] (fun v wr => ∃ i : Nat, i ≤ ks.length ∧ v = .int .i64 (i : Int) ∧ (∀ j : Nat, j < i → inL l.length (rd ks (j : Int)) = true) ∧ wr.heap[gi]? = some (.cells (boolsV (ofL l.length (ks.take i))) 4 (0, 0)) ∧ wr.heap[gi + 1]? = some (.cells #[.slice A l.length c, .slice (some ⟨gi, 0, none⟩) l.length l.length] 80 (0, 0)) ∧ wr.heap[w.heap.size]? = some (.cells #[.slice none 0 0, .slice none 0 0] 80 (0, 0)) ∧ Below w.heap.size w wr) (fun v _ => ks.length - (intOf v).toNat)
    case atStart => exact ⟨0, by omega, rfl, fun j h => absurd h (Nat.not_lt_zero j), by rw [List.take_zero, ofL_nil]; exact hR5.out, hK5.out, hr5.out, hx⟩
    case round =>
      obtain ⟨i, hi, rfl, hno, hrow, hbox, hKr, hB⟩ := hrel
      clear hx hR5 hK5 hr5 hB5
      replace hno := Aside0.mk hno
      by_cases hlt : (i : Int) < ks.length
      · have hilt : i < ks.length := by omega
        obtain ⟨ad, eK, k0⟩ := Kd.at_int (Kd.C_below hK.out hB) (i : Int) (by omega) hlt
        subst eK
        have hstep := Lib.hid (take_snoc ks i hilt)
        have hnoS := Lib.hid (fun (h : inL l.length (rd ks (i : Int)) = true) (j : Nat) (hj : j < i + 1) => (show inL l.length (rd ks (j : Int)) = true from by
          by_cases e : j = i
          · subst e; exact h
          · exact hno.out j (by omega)))
        have hwhyN := Lib.hid (fun (h : inL l.length (rd ks (i : Int)) = false) => why_no hrb.out i hilt h)
        obtain ⟨k, hk⟩ : ∃ k, rd ks (i : Int) = k := ⟨_, rfl⟩
        rw [Int.toNat_natCast, hk] at k0
        rw [hk] at hnoS hwhyN hstep
        replace hk := Lib.hid hk
        by_cases hk0 : k < 0
        · have f0 : decide (k < 0) = true := decide_eq_true hk0
          have hwhy := Lib.hid (hwhyN.out (by unfold inL; rw [decide_eq_false (by omega)]; rfl))
          clear hno
          go_wp2_with ((with_reducible refine gate_store (t := 80) (p := 4) rfl ?_); go_loud (refine wpList_storeBox rfl rfl 80 (.tmp 4) (.tmp 32) rfl (fv none 0 0 none 0 0) [.slice none 0 0, .slice none 0 0] rfl rfl rfl (by kernel_rfl) (by simp [Value.oneCell']) hKr rfl ?_); intro w7 hK7 hg7 hs7)
          have hB7 := Aside0.mk (hB.grown hg7 hB.size (fun k hk => by injection hk with hk; omega))
          replace hK7 := Aside0.mk hK7
          clear hg7 hs7 hKr
          go_wp2
          refine bodyPost_ret (results_ct rfl _ _ w.heap.size 80 _ (0, 0) _ rfl hK7.out Try.underlying80 rfl (by kernel_rfl)) rfl ?_
          exact ⟨.inl ⟨by rw [hwhy.out]; decide, by rw [hwhy.out]; rfl⟩, hB7.out⟩
        · have f0 : decide (k < 0) = false := decide_eq_false hk0
          by_cases hk1 : k < l.length
          · have f1 : decide ((l.length : Int) ≤ k) = false := decide_eq_false (by omega)
            have hin : inL l.length k = true := by unfold inL; rw [decide_eq_true (by omega), decide_eq_true hk1]; rfl
            obtain ⟨x0, x1⟩ := box2 hbox
            go_wp2_with ((with_reducible refine gate_store (t := 4) (p := 36) rfl ?_); go_loud (refine wpList_storeField rfl rfl 4 (.tmp 36) (.const (.bool true)) rfl k.toNat (.bool true) _ rfl rfl rfl (by kernel_rfl) rfl hrow (by simp [ofL_len]; omega) rfl ?_); intro w7 hK7 hg7 hs7)
            rw [bools_set _ _ _ (by rw [ofL_len]; omega), ofL_step _ _ _ (by omega) hk1, ← hstep.out] at hK7
            have hB7 := hB.grown hg7 hB.size (fun k hk => by injection hk with hk; have := hs2.out; omega)
            have hbx7 := (hg7.block _ (blk_lt hbox) (fun e => by injection e with e; omega)).trans hbox
            have hkr7 := (hg7.block _ (blk_lt hKr) (fun e => by injection e with e; have := hs2.out; omega)).trans hKr
            replace hK7 := Aside0.mk hK7
            replace hB7 := Aside0.mk hB7
            replace hbx7 := Aside0.mk hbx7
            replace hkr7 := Aside0.mk hkr7
            clear hg7 hs7 hbox hKr hB hrow
            go_wp2
            go_roundw
            case rel => exact ⟨i + 1, by omega, by go_num, hnoS.out hin, hK7.out, hbx7.out, hkr7.out, hB7.out⟩
            case measure => simp [intOf]; omega
          · have f1 : decide ((l.length : Int) ≤ k) = true := decide_eq_true (by omega)
            have hwhy := Lib.hid (hwhyN.out (by unfold inL; rw [decide_eq_false (show ¬ k < (l.length : Int) from hk1), Bool.and_false]))
            clear hno
            go_wp2_with ((with_reducible refine gate_store (t := 80) (p := 4) rfl ?_); go_loud (refine wpList_storeBox rfl rfl 80 (.tmp 4) (.tmp 32) rfl (fv none 0 0 none 0 0) [.slice none 0 0, .slice none 0 0] rfl rfl rfl (by kernel_rfl) (by simp [Value.oneCell']) hKr rfl ?_); intro w7 hK7 hg7 hs7)
            have hB7 := Aside0.mk (hB.grown hg7 hB.size (fun k hk => by injection hk with hk; omega))
            replace hK7 := Aside0.mk hK7
            clear hg7 hs7 hKr
            go_wp2
            refine bodyPost_ret (results_ct rfl _ _ w.heap.size 80 _ (0, 0) _ rfl hK7.out Try.underlying80 rfl (by kernel_rfl)) rfl ?_
            exact ⟨.inl ⟨by rw [hwhy.out]; decide, by rw [hwhy.out]; rfl⟩, hB7.out⟩
      · obtain rfl : i = ks.length := by omega
        have hwhy := Lib.hid (why_yes hrb.out hno.out)
        rw [List.take_length] at hrow
        obtain ⟨x0, x1⟩ := box2 hbox
        have hKr0 := hKr
        replace hrow := Aside0.mk hrow
        go_wp2_with ((with_reducible refine gate_store (t := 80) (p := 4) rfl ?_); go_loud (refine wpList_storeBox rfl rfl 80 (.tmp 4) (.tmp 38) rfl (fv A l.length c (some ⟨gi, 0, none⟩) l.length l.length) [.slice A l.length c, .slice (some ⟨gi, 0, none⟩) l.length l.length] rfl rfl rfl (by kernel_rfl) (by simp [Value.oneCell']) hKr rfl ?_); intro w7 hK7 hg7 hs7; clear x0 x1)
        have hB7 := hB.grown hg7 hB.size (fun k hk => by injection hk with hk; omega)
        have hrow7 := (hg7.block _ (blk_lt hrow.out) (fun e => by injection e with e; have := hs2.out; omega)).trans hrow.out
        have hCC := bools_cells w7 gi (ofL l.length ks) (by rw [ofL_len]; exact hlen) hrow7
        rw [ofL_len] at hCC
        have hFin : Aside0 (FS A c l (some ⟨gi, 0, none⟩) l.length (ofL l.length ks) w7) := Aside0.mk ⟨Kd.C_below hC.out hB7, hCC, ofL_len _ _, hc, Nat.le_refl _, hlen⟩
        replace hB7 := Aside0.mk hB7
        replace hK7 := Aside0.mk hK7
        clear hCC hrow7 hg7 hKr hKr0 hrow hbox hno
        go_wp2
        refine bodyPost_ret (results_ct rfl _ _ w.heap.size 80 _ (0, 0) _ rfl hK7.out Try.underlying80 rfl (by kernel_rfl)) rfl ?_
        exact ⟨.inr ⟨hwhy.out, gi, rfl, hFin.out⟩, hB7.out⟩
end Go.Proofs.Ytenmmeehgnkcpaa.Q
