/- term.Right: whether terms may be.
   Conditions: the list is read as terms whose numbers are of 64 bits. -/
import Derived.Test.YtenmmeehgnkcpaaHStep
import Derived.Test.YtenmmeehgnkcpaaHMade
namespace Go.Proofs.Ytenmmeehgnkcpaa.Q
open Go.RowKit Go.Proofs.YtenmmeehgnkcpaaW.PrintWords Go.Proofs.YtenmmeehgnkcpaaW.PrintLast Go.Proofs.YtenmmeehgnkcpaaW.PrintMore
set_option linter.unusedVariables false
set_option linter.unusedSimpArgs false

theorem setCells_box {g : Nat} {e : TypeId} (W : World) (cur : Array Value) (seg : List Value) (hh : W.heap[g]? = some (.cells cur e (0, 0))) (hl : cur.size = seg.length) :
    (W.setCells g 0 seg).heap[g]? = some (.cells seg.toArray e (0, 0)) ∧ W.grownBy (W.setCells g 0 seg) (some g) ∧ (W.setCells g 0 seg).heap.size = W.heap.size := by
  obtain ⟨cur', h3, h4, h5⟩ := setCells_row seg 0 W cur hh (by omega)
  obtain ⟨s1, s2, s3, s4⟩ := setCells_same g seg 0 W
  refine ⟨?_, ⟨s1, s2, s3, by rw [s4]; exact Nat.le_refl _, fun k _ hk => setCells_far seg 0 k (fun he => hk (by rw [he]))⟩, s4⟩
  rw [h3]
  congr 2
  apply Array.ext'
  rw [h5, List.take_zero, List.nil_append, List.drop_eq_nil_of_le (by rw [Array.length_toList]; omega), List.append_nil]
theorem wpList_storeBox {P : Program} {ops : Array Oper} {rest : List Oper} {o : Oper} {a : Act} {Q : Exit → Act → World → Prop} {W : World} (hN : o.dst = none) (hgd : o.guard = none) (t : TypeId) (p x : Operand) (ho : o.op = .store t p x) {g : Nat} {e : TypeId} {cur : Array Value} (u : Value) (seg : List Value)
    (haddr : a.eval p = .pointer (some ⟨g, 0, none⟩)) (hx : a.eval x = u) (hu : u.cells.toList = seg) (ht : (P.info? t).map (·.size) = some seg.length) (h1 : ∀ q ∈ seg, q.oneCell' = true)
    (hh : W.heap[g]? = some (.cells cur e (0, 0))) (hl : cur.size = seg.length)
    (h : ∀ W', W'.heap[g]? = some (.cells seg.toArray e (0, 0)) → W.grownBy W' (some g) → W'.heap.size = W.heap.size → wpList P ops Q rest a W') : wpList P ops Q (o :: rest) a W := by
  obtain ⟨b1, b2, b3⟩ := setCells_box W cur seg hh hl
  refine wpList_plain hgd fun K hK => ?_
  have hrun := run_store_run (P := P) (w := W) (g := g) (o := 0) t u seg hh hu ht (by omega) h1
  unfold Oper.wp execOp
  simp only [ho, haddr, hx, Sem.run_bind, Sem.run_pure, Result.andThen_ok, hrun]
  show K (a.put o.dst undef) _
  rw [hN]
  exact hK _ _ (h _ b1 b2 b3)
theorem skip_storeBox {P : Program} {ops : Array Oper} {Q : Exit → Act → World → Prop} {oi : Oper} {a : Act} {W : World} {K : Act → World → Prop} (hw : Region.wanted oi (yielded ops a.tmps) = true) (hN : oi.dst = none) (t : TypeId) (p x : Operand) (ho : oi.op = .store t p x) {g : Nat} {e : TypeId} {cur : Array Value} (u : Value) (seg : List Value)
    (haddr : a.eval p = .pointer (some ⟨g, 0, none⟩)) (hx : a.eval x = u) (hu : u.cells.toList = seg) (ht : (P.info? t).map (·.size) = some seg.length) (h1 : ∀ q ∈ seg, q.oneCell' = true)
    (hh : W.heap[g]? = some (.cells cur e (0, 0))) (hl : cur.size = seg.length)
    (h : ∀ W', W'.heap[g]? = some (.cells seg.toArray e (0, 0)) → W.grownBy W' (some g) → W'.heap.size = W.heap.size → K a W') :
    if Region.wanted oi (yielded ops a.tmps) = true then Oper.wp P oi a W K Q else K (a.put none undef) W := by
  obtain ⟨b1, b2, b3⟩ := setCells_box W cur seg hh hl
  refine skip_ hw hN ?_ (h _ b1 b2 b3)
  have hrun := run_store_run (P := P) (w := W) (g := g) (o := 0) t u seg hh hu ht (by omega) h1
  unfold execOp
  simp only [ho, haddr, hx, Sem.run_bind, Sem.run_pure, Result.andThen_ok, hrun]
theorem setCells_field {g j : Nat} {e : TypeId} (W : World) (cur cur' : Array Value) (u : Value) (hh : W.heap[g]? = some (.cells cur e (0, 0))) (hl : j + 1 ≤ cur.size) (hc : (cur.toList.take j ++ [u] ++ cur.toList.drop (j + 1)).toArray = cur') :
    (W.setCells g j [u]).heap[g]? = some (.cells cur' e (0, 0)) ∧ W.grownBy (W.setCells g j [u]) (some g) ∧ (W.setCells g j [u]).heap.size = W.heap.size := by
  obtain ⟨cur2, h3, h4, h5⟩ := setCells_row [u] j W cur hh (by simpa using hl)
  obtain ⟨s1, s2, s3, s4⟩ := setCells_same g [u] j W
  refine ⟨?_, ⟨s1, s2, s3, by rw [s4]; exact Nat.le_refl _, fun k _ hk => setCells_far [u] j k (fun he => hk (by rw [he]))⟩, s4⟩
  rw [h3, ← hc]
  congr 2
  apply Array.ext'
  rw [h5]
  rfl
/-- A value of one cell, stored into a field of a box. -/
theorem wpList_storeField {P : Program} {ops : Array Oper} {rest : List Oper} {o : Oper} {a : Act} {Q : Exit → Act → World → Prop} {W : World} (hN : o.dst = none) (hgd : o.guard = none) (t : TypeId) (p x : Operand) (ho : o.op = .store t p x) {g : Nat} (j : Nat) {e : TypeId} {cur : Array Value} (u : Value) (cur' : Array Value)
    (haddr : a.eval p = .pointer (some ⟨g, j, none⟩)) (hx : a.eval x = u) (hu : u.cells.toList = [u]) (ht : (P.info? t).map (·.size) = some 1) (h1 : u.oneCell' = true)
    (hh : W.heap[g]? = some (.cells cur e (0, 0))) (hl : j + 1 ≤ cur.size) (hc : (cur.toList.take j ++ [u] ++ cur.toList.drop (j + 1)).toArray = cur')
    (h : ∀ W', W'.heap[g]? = some (.cells cur' e (0, 0)) → W.grownBy W' (some g) → W'.heap.size = W.heap.size → wpList P ops Q rest a W') : wpList P ops Q (o :: rest) a W := by
  obtain ⟨b1, b2, b3⟩ := setCells_field W cur cur' u hh hl hc
  refine wpList_plain hgd fun K hK => ?_
  have hrun := run_store_run (P := P) (w := W) (g := g) (o := j) t u [u] hh hu ht (by simpa using hl) (by simpa using h1)
  unfold Oper.wp execOp
  simp only [ho, haddr, hx, Sem.run_bind, Sem.run_pure, Result.andThen_ok, hrun]
  show K (a.put o.dst undef) _
  rw [hN]
  exact hK _ _ (h _ b1 b2 b3)
theorem rd28_nat (l : List S28) (i : Nat) (h : i < l.length) : rd_T28 l (i : Int) = l[i] := by simp [rd_T28, h]
theorem rd28_mem (l : List S28) (i : Nat) (h : i < l.length) : rd_T28 l (i : Int) ∈ l := by rw [rd28_nat l i h]; exact List.getElem_mem h
def okT (l : List S28) (i : Nat) : Bool := madeB (i : Int) (rd_T28 l (i : Int)) && !hasT (l.take i) (rd_T28 l (i : Int))
def rowT (l : List S28) : Bool := (List.range l.length).all fun i => okT l i
def rightB (l : List S28) : Bool := rowT l && decide (l.length ≤ 400)
theorem rowT_no {l : List S28} (i : Nat) (hi : i < l.length) (h : okT l i = false) : rightB l = false := by
  unfold rightB rowT
  rw [Bool.and_eq_false_iff]
  left
  rw [List.all_eq_false]
  exact ⟨i, List.mem_range.2 hi, by simp [h]⟩
theorem rowT_yes {l : List S28} (h : ∀ i, i < l.length → okT l i = true) : rightB l = decide (l.length ≤ 400) := by
  unfold rightB rowT
  rw [List.all_eq_true.2 (fun i hi => h i (List.mem_range.1 hi)), Bool.true_and]
theorem take_snoc28 (l : List S28) (i : Nat) (hi : i < l.length) : l.take (i + 1) = l.take i ++ [rd_T28 l (i : Int)] := by
  rw [List.take_succ_eq_append_getElem hi, rd28_nat l i hi]
set_option maxHeartbeats 4000000 in
set_option maxRecDepth 100000 in
theorem right_calls (A : Option Addr) (c : Nat) (l : List S28) (w : World) (hC : k28.C w A l.length l) (hc : l.length ≤ c) (hlen : l.length ≤ 1000000) (hwf : ∀ t ∈ l, wfT t) :
    Calls Try.prog 44 #[.slice A l.length c] w fun e w' => e = .returned (.bool (rightB l)) ∧ Below w.heap.size w w' := by
  have hmm := @run_makeMap Try.prog
  have hC2 := Aside0.mk hC
  replace hwf := Lib.hid hwf
  clear hC
  go_enter Try.func44, Try.ntmps44
  go_wp2
  clear hmm
  have hown0 := World.ownsMap_made (H := Unit) w Try.prog 28 (plainElem Try.prog 3)
  have hb0 : Below w.heap.size w (w.alloc (.map #[] 0)) := below_alloc (Below.refl _ _) _
  go_loopw [9] (fun v wr => ∃ (i : Nat) (D : DataW Unit), i ≤ l.length ∧ v = .int .i64 (i : Int) ∧ wr.ownsMap Try.prog 28 (plainElem Try.prog 3) w.heap.size i D ∧ SeenT D (l.take i) ∧ (∀ j, j < i → okT l j = true) ∧ Below w.heap.size w wr) (fun v _ => l.length - (intOf v).toNat)
  case atStart => exact ⟨0, _, by omega, rfl, hown0, seenT_none, fun j h => absurd h (Nat.not_lt_zero j), hb0⟩
  case round =>
    clear hown0 hb0
    obtain ⟨i, D, hi, rfl, hown, hS, hok, hB⟩ := hrel
    by_cases hlt : (i : Int) < l.length
    · obtain ⟨ad, eA, q0, q1, q2, q3⟩ := at_T28 (Kd.C_below hC2.out hB) (i : Int) (by omega) hlt
      subst eA
      have hts := take_snoc28 l i (by omega)
      have hoki : okT l i = (madeB (i : Int) (rd_T28 l (i : Int)) && !hasT (l.take i) (rd_T28 l (i : Int))) := rfl
      have hno := rowT_no (l := l) i (by omega)
      have hwt := hwf.out _ (rd28_mem l i (by omega))
      generalize rd_T28 l (i : Int) = t at q0 q1 q2 q3 hts hoki hwt
      rw [Int.toNat_natCast] at q0 q1 q2 q3
      obtain ⟨ts, hts0⟩ : ∃ ts, l.take i = ts := ⟨_, rfl⟩
      rw [hts0] at hS hts hoki
      obtain ⟨w3, hw3⟩ : ∃ w3, wr.alloc (.cells #[.int .i64 0, .int .u64 0, .int .i64 0, .int .i64 0] 28 (0, 0)) = w3 := ⟨_, rfl⟩
      have hb3 : Below wr.heap.size wr w3 := by rw [← hw3]; exact below_alloc (Below.refl _ _) _
      have hK3 : w3.heap[wr.heap.size]? = some (.cells #[.int .i64 0, .int .u64 0, .int .i64 0, .int .i64 0] 28 (0, 0)) := by rw [← hw3]; exact heap_alloc_new _ _
      have hmb := hown.lt
      obtain ⟨cc, hc'⟩ : ∃ c : Int, c = if hasT ts t = true then 1 else 0 := ⟨_, rfl⟩
      have hSk := hS.2 t hwt
      rw [← hc'] at hSk
      have hcr : 0 ≤ cc ∧ cc ≤ 1 := by rw [hc']; split <;> omega
      have hwc : wrap64 (cc + 1) = cc + 1 := by unfold wrap64; omega
      have hcw : (Lit.int .i64 (cc + 1)).wf = true := by have := wrap64_wf (cc + 1); rwa [hwc] at this
      replace hSk := Lib.hid hSk
      replace hc' := Lib.hid hc'
      replace hok := Aside0.mk hok
      replace hoki := Aside0.mk hoki
      replace hno := Aside0.mk hno
      replace hts := Lib.hid hts
      replace hts0 := Lib.hid hts0
      replace hwt := Lib.hid hwt
      go_wp2_with ((with_reducible refine gate_store (t := 28) (p := 5) rfl ?_); go_loud (refine wpList_storeBox rfl rfl 28 (.tmp 5) (.tmp 13) rfl (tv t) [.int .i64 t.f0, .int .u64 t.f1, .int .i64 t.f2, .int .i64 t.f3] rfl rfl rfl (by kernel_rfl) (by simp [Value.oneCell']) hK3 rfl ?_); intro w4 hK4 hg4 hs4; clear hs4; have hb4 := Aside0.mk (pw_below_grown hb3 _ hb3.size hg4 (fun k hk => by cases hk; exact Nat.le_refl _)); clear hw3 hb3 hK3 hg4 q0 q1 q2 q3; have hown1 := (hown.kept (row := none) (below_grown hb4.out) (by simp)).drew)
      obtain ⟨v0, st, w5, hme, hg5, ⟨D5, hown5, hat5⟩, hstc⟩ := own_entry hown1 hwt.out (by unfold maxLen; omega)
      obtain ⟨w6, hst0, hown6, hg6⟩ := hstc (cc + 1) hcw
      have hst : (Instr.entryStore 99 (.map (some w.heap.size)) (.int .i64 (st : Int)) (.int .i64 (cc + 1))).run Try.prog w5 = .ok () w6 := hst0
      have hl4 : (Instr.lookup 99 (.map (some w.heap.size)) (.agg #[.int .i64 t.f0, .int .u64 t.f1, .int .i64 t.f2, .int .i64 t.f3]) false).run Try.prog w4.drew = .ok (.int .i64 cc) w4.drew := by
        obtain ⟨c', h1, h2, _⟩ := hown1.lookup_int keyed28 Try.underlying99 Try.underlying3 (Try.zeroValue3 _) (key_of hwt.out).1
        rw [← lit_inj (h2.symm.trans hSk.out)]
        exact h1
      have hl5 : (Instr.lookup 99 (.map (some w.heap.size)) (.agg #[.int .i64 t.f0, .int .u64 t.f1, .int .i64 t.f2, .int .i64 t.f3]) false).run Try.prog w5 = .ok (.int .i64 cc) w5 := by
        obtain ⟨c', h1, h2, _⟩ := hown5.lookup_int keyed28 Try.underlying99 Try.underlying3 (Try.zeroValue3 _) (key_of hwt.out).1
        rw [← lit_inj (h2.symm.trans (hat5.trans hSk.out))]
        exact h1
      have hK5 : w5.heap[wr.heap.size]? = some (.cells #[.int .i64 t.f0, .int .u64 t.f1, .int .i64 t.f2, .int .i64 t.f3] 28 (0, 0)) := (hg5.block _ (blk_lt hK4) (fun e => by injection e with e; omega)).trans hK4
      have hK6 := (hg6.block _ (blk_lt hK5) (fun e => by injection e with e; omega)).trans hK5
      have hq4 : Hid (w4.drew.cell? ⟨wr.heap.size, 0, none⟩ = some (.int .i64 t.f0) ∧ w4.drew.cell? ⟨wr.heap.size, 1, none⟩ = some (.int .u64 t.f1) ∧ w4.drew.cell? ⟨wr.heap.size, 2, none⟩ = some (.int .i64 t.f2) ∧ w4.drew.cell? ⟨wr.heap.size, 3, none⟩ = some (.int .i64 t.f3) ∧ (Instr.lookup 99 (.map (some w.heap.size)) (.agg #[.int .i64 t.f0, .int .u64 t.f1, .int .i64 t.f2, .int .i64 t.f3]) false).run Try.prog w4.drew = .ok (.int .i64 cc) w4.drew) := Lib.hid (by
        obtain ⟨a, b, c, d⟩ := box4 (W := w4.drew) hK4
        exact ⟨a, b, c, d, hl4⟩)
      have hq5 : Hid (w5.cell? ⟨wr.heap.size, 0, none⟩ = some (.int .i64 t.f0) ∧ w5.cell? ⟨wr.heap.size, 1, none⟩ = some (.int .u64 t.f1) ∧ w5.cell? ⟨wr.heap.size, 2, none⟩ = some (.int .i64 t.f2) ∧ w5.cell? ⟨wr.heap.size, 3, none⟩ = some (.int .i64 t.f3) ∧ (Instr.lookup 99 (.map (some w.heap.size)) (.agg #[.int .i64 t.f0, .int .u64 t.f1, .int .i64 t.f2, .int .i64 t.f3]) false).run Try.prog w5 = .ok (.int .i64 cc) w5) := Lib.hid (by
        obtain ⟨a, b, c, d⟩ := box4 hK5
        exact ⟨a, b, c, d, hl5⟩)
      have hBr := Aside0.mk hB
      clear hstc hst0 hown hown1 hown5 hat5 hl4 hl5 hK5 hB
      have hB6 := Aside0.mk (pw_below_grown (pw_below_grown (below_drew (below_step hBr.out hb4.out)) w.heap.size (below_drew (below_step hBr.out hb4.out)).size hg5 (fun k hk => by injection hk with hk; omega)) w.heap.size (pw_below_grown (below_drew (below_step hBr.out hb4.out)) w.heap.size (below_drew (below_step hBr.out hb4.out)).size hg5 (fun k hk => by injection hk with hk; omega)).size hg6 (fun k hk => by injection hk with hk; omega))
      refine start_ (n := 7) (S := fun w' => w'.cell? ⟨wr.heap.size, 0, none⟩ = some (.int .i64 t.f0) ∧ w'.cell? ⟨wr.heap.size, 1, none⟩ = some (.int .u64 t.f1) ∧ w'.cell? ⟨wr.heap.size, 2, none⟩ = some (.int .i64 t.f2) ∧ w'.cell? ⟨wr.heap.size, 3, none⟩ = some (.int .i64 t.f3) ∧ (Instr.lookup 99 (.map (some w.heap.size)) (.agg #[.int .i64 t.f0, .int .u64 t.f1, .int .i64 t.f2, .int .i64 t.f3]) false).run Try.prog w' = .ok (.int .i64 cc) w') (ds := [6]) #[false, false, false, false, false, false, false] (by kernel_rfl) rfl rfl ⟨hq4.out.1, hq4.out.2.1, hq4.out.2.2.1, hq4.out.2.2.2.1, hq4.out.2.2.2.2⟩ (fun hHeld => ?_)
      refine p_ 0 (some 14) #[true, false, false, false, false, false, false] ?_
      refine t_ 1 (some 15) #[true, true, false, false, false, false, false] hHeld (hv := by rintro w' ⟨s0, s1, s2, s3, s4⟩; go_simp; with_reducible rfl) (h := ?_)
      refine t_ 2 (some 16) #[true, true, true, false, false, false, false] hHeld (hv := by rintro w' ⟨s0, s1, s2, s3, s4⟩; go_simp; with_reducible rfl) (h := ?_)
      refine p_ 3 (some 17) #[true, true, true, true, false, false, false] ?_
      refine one_ (i := 4) (N := some 18) #[true, true, true, true, true, false, false] rfl rfl (by kernel_rfl) (by decide) (fun K hK => ?_)
      refine value_ (w1 := ?_) (v := ?_) (by rfl) rfl ?_ ?_
      rotate_left 2
      · go_simp
        constructor
        · rfl
        · rfl
      refine hK.out _ _ ⟨hq5.out.1, hq5.out.2.1, hq5.out.2.2.1, hq5.out.2.2.2.1, hq5.out.2.2.2.2⟩ (fun hHeld => ?_)
      clear hK K
      refine norm_ (a' := ?_) ?_ ?_
      rotate_left
      · show Act.put _ (some 18) _ = _
        simp only [Act.put, List.setIfInBounds_toArray, List.set_cons_zero, List.set_cons_succ, i64_w, i32_w]
        rfl
      refine p_ 5 (some 19) #[true, true, true, true, true, true, false] ?_
      refine last_ (i := 6) (N := none) #[true, true, true, true, true, true, true] rfl rfl (by kernel_rfl) (by decide) (fun K hK => ?_)
      refine skip_ (w1 := ?_) (by rfl) rfl ?_ ?_
      rotate_left
      · go_simp
        rfl
      refine hK.out _ _ ?_
      clear hK K
      refine done_ (by kernel_rfl) ?_
      clear hme hst hg5 hg6 hq4 hq5 hHeld hK4
      obtain ⟨z0, z1, z2, z3⟩ := box4 hK6
      go_wp2_with fail
      refine (made_calls (i : Int) t _).mono ?_; rintro e_ w7 ⟨rfl, hb7⟩
      have hK7 := (hb7.block _ (blk_lt hK6)).trans hK6
      have hown7 := hown6.kept (row := none) (below_grown hb7) (by simp)
      have hB7 := Aside0.mk (below_step hB6.out hb7)
      have hl7 : (Instr.lookup 99 (.map (some w.heap.size)) (.agg #[.int .i64 t.f0, .int .u64 t.f1, .int .i64 t.f2, .int .i64 t.f3]) false).run Try.prog w7 = .ok (.int .i64 (cc + 1)) w7 := by
        obtain ⟨c', h1, h2, _⟩ := hown7.lookup_int keyed28 Try.underlying99 Try.underlying3 (Try.zeroValue3 _) (key_of hwt.out).1
        rw [← lit_inj (h2.symm.trans (Maps.atKey_put_same hS.1 (isKey hwt.out) _ _))]
        exact h1
      replace hown7 := Aside0.mk hown7
      clear hown6 hb7 z0 z1 z2 z3 hK6
      obtain ⟨z0, z1, z2, z3⟩ := box4 hK7
      cases hmd : madeB (i : Int) t with
      | false =>
        have hf := Lib.hid (hno.out (by rw [hoki.out, hmd]; rfl))
        go_wp2
        go_ret
        exact ⟨by rw [hf.out]; rfl, hB7.out⟩
      | true =>
        cases hha : hasT ts t with
        | true =>
          have hf := Lib.hid (hno.out (by rw [hoki.out, hmd, hha]; rfl))
          have hcc : cc = 1 := by rw [hc'.out, if_pos hha]
          subst hcc
          go_wp2
          go_ret
          exact ⟨by rw [hf.out]; rfl, hB7.out⟩
        | false =>
          have hcc : cc = 0 := by rw [hc'.out, if_neg (by rw [hha]; simp)]
          subst hcc
          have hS2 := Aside0.mk (seenT_put hS hwt.out hha)
          have hok1 := Aside0.mk (fun j (hj : j < i + 1) => (show okT l j = true from by
            by_cases e : j = i
            · subst e; rw [hoki.out, hmd, hha]; rfl
            · exact hok.out j (by omega)))
          rw [← hts.out] at hS2
          go_wp2
          go_roundw
          case rel => exact ⟨i + 1, _, by omega, by go_num, hown7.out, hS2.out, hok1.out, hB7.out⟩
          case measure => simp [intOf]; omega
    · obtain rfl : i = l.length := by omega
      have hyes := rowT_yes hok
      have hyes2 : rightB l = decide ((l.length : Int) ≤ 400) := by rw [hyes]; exact decide_eq_decide.2 (by omega)
      replace hyes2 := Lib.hid hyes2
      clear hyes
      go_wp2
      go_ret
      exact ⟨by rw [hyes2.out]; rfl, hB⟩
end Go.Proofs.Ytenmmeehgnkcpaa.Q
