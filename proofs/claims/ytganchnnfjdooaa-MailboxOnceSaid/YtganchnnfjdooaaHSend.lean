/- mailbox.Send answers the parcels with one more, or why not.
   Conditions: the list is read as parcels. -/
import Derived.Test.YtganchnnfjdooaaHTake
namespace Go.Proofs.Ytganchnnfjdooaa.Q
open Go.RowKit Go.Proofs.YtganchnnfjdooaaW.PrintWords Go.Proofs.YtganchnnfjdooaaW.PrintLast Go.Proofs.YtganchnnfjdooaaW.PrintMore
set_option linter.unusedVariables false
set_option linter.unusedSimpArgs false

theorem clip_calls (A0 : Option Addr) (c0 : Nat) (l0 : List S27) (w : World) (hc0 : l0.length ≤ c0) :
    Calls Try.prog 24 #[.slice A0 l0.length c0] w fun e w' => e = .returned (.slice A0 l0.length l0.length) ∧ w' = w := by
  go_enter Try.func24, Try.ntmps24
  go_wp2
  go_ret
  exact ⟨rfl, rfl⟩
/-- append(slices.Clip(s), x): the row is new. -/
theorem run_append_clip {P : Program} {α : Type} (d : Kd α) {Rr : α → List Value → Prop} {W : World} (t ty e : TypeId) (z : Value) (bytes : Nat)
    (ht : P.underlying t = some (.slice e)) (hinfo : (P.info? e).map (fun i => (i.zero, i.size, i.bytes)) = some (some z, d.sz, bytes)) (hz : z.cells.size = d.sz) (hs0 : 0 < d.sz) (hb0 : 0 < bytes)
    (A : Option Addr) (xs ys : List α) (ad : Addr) (c : Nat) (HX : ReadsRow Rr d.sz W A xs.length xs) (HY : ReadsRow Rr d.sz W (some ad) ys.length ys) (hy : 0 < ys.length)
    (hKM : ∀ w1 base ok x cs, Rr x cs → d.M w1 base ok x cs) (hl : (xs.length + ys.length) * bytes ≤ 140737488355328) :
    ∃ v1 w1, (Builtin.append_ #[t, t] ty #[.slice A xs.length xs.length, .slice (some ad) ys.length c]).run P W = .ok v1 w1 ∧ d.R e w1 W.heap.size (fun _ => True) v1 (xs ++ ys) ∧ Below W.heap.size W w1 := by
  obtain ⟨i0, hi, hzz⟩ := Option.map_eq_some_iff.1 hinfo
  simp only [Prod.mk.injEq] at hzz
  obtain ⟨hz0, hz1, hz2⟩ := hzz
  have hlen : xs.length + ys.length ≤ 140737488355328 := Nat.le_trans (Nat.le_mul_of_pos_right _ hb0) hl
  obtain ⟨news, hnr, hnc⟩ := ReadsRow.inner_ HY
  have holds : ∃ olds, Reps Rr d.sz xs olds ∧ ∀ b, A = some b → ∀ j v, olds[j]? = some v → W.cell? (b.add j) = some v := by
    rcases A with _ | b
    · have h0 : xs = [] := by
        rcases Nat.eq_zero_or_pos xs.length with h | h
        · exact List.eq_nil_of_length_eq_zero h
        · obtain ⟨ad, h', _⟩ := HX.2.2 h
          cases h'
      subst h0
      exact ⟨[], Reps.none _ _, fun b h => by cases h⟩
    · obtain ⟨olds, h1, h2⟩ := ReadsRow.inner_ HX
      exact ⟨olds, h1, fun b' h => by cases h; exact h2⟩
  obtain ⟨olds, hor, hoc⟩ := holds
  have hres : ∀ (old : Nat), d.R e (W.drew.alloc (.cells (olds.toArray ++ news.toArray ++ Builtin.zeroCells z.cells (grownCap W (xs.length + ys.length) old e - (xs.length + ys.length))) e)) W.heap.size (fun _ => True) (.slice (some ⟨W.heap.size, 0, none⟩) (xs.length + ys.length) (grownCap W (xs.length + ys.length) old e)) (xs ++ ys) := by
    intro old
    have hge := grownCap_ge W (xs.length + ys.length) old e
    have hcm : grownCap W (xs.length + ys.length) old e ≤ maxLen := grownCap_le_maxLen W (xs.length + ys.length) old e (by simp only [maxLen]; omega)
    have hlen2 : (olds ++ news).length = (xs.length + ys.length) * d.sz := by rw [List.length_append, hor.1, hnr.1, Nat.add_mul]
    refine ⟨fun _ _ => trivial, olds ++ news, ⟨by rw [hlen2, List.length_append], .inr ⟨W.heap.size, _, _, by rw [List.length_append], Nat.le_refl _, heap_alloc_new W.drew _, by rw [List.length_append]; exact hge, hcm, ?_, ?_⟩⟩, ?_⟩
    · simp only [Array.size_append, List.size_toArray, size_zeroCells, hz, hor.1, hnr.1, ← Nat.add_mul]
      congr 1
      omega
    · simp only [Array.toList_append, List.append_assoc]
      rw [List.length_append, ← List.append_assoc, ← hlen2]
      exact List.take_left
    · exact (Kd.reps_append hor hnr).imp_ (fun p q hp => hKM _ _ _ p q hp)
  have hbel : ∀ o, Below W.heap.size W (W.drew.alloc o) := fun o => below_alloc (below_drew (Below.refl _ _)) _
  rcases A with _ | b
  · have h0 : xs = [] := by
      rcases Nat.eq_zero_or_pos xs.length with h | h
      · exact List.eq_nil_of_length_eq_zero h
      · obtain ⟨ad, h', _⟩ := HX.2.2 h
        cases h'
    subst h0
    obtain rfl : olds = [] := List.eq_nil_of_length_eq_zero (by simpa using hor.1)
    have hr := run_append_nil (P := P) W t ty e i0 z ht hi hz0 ad ys.length c news (by rw [hnr.1, hz1]) hnc hy (by omega) (by rw [hz2]; have hb := hl; simp only [List.length_nil, Nat.zero_add] at hb; omega)
    have h2 := hres 0
    simp only [List.length_nil, Nat.zero_add, List.nil_append, Array.empty_append] at h2
    refine ⟨_, _, hr, ?_, hbel _⟩
    simpa using h2
  · have hr := run_append_grow (P := P) W t ty e i0 z ht hi hz0 b xs.length xs.length olds (by rw [hor.1, hz1]) (hoc b rfl) ad ys.length c news (by rw [hnr.1, hz1]) hnc (by omega) (by omega) (by rw [hz2]; exact growslice_fits (by omega) hl)
    exact ⟨_, _, hr, hres xs.length, hbel _⟩
section
variable {P : Program} {ops : Array Oper} {o : Oper} {a : Act} {Q : Exit → Act → World → Prop} {K : Act → World → Prop}
theorem clip_step {W w1 : World} {v1 : Value} (hw : Region.wanted o (yielded ops a.tmps) = true) (s x : Operand) {t : TypeId} {vs vx : Value}
    (ho : o.op = .call { callee := .builtin .append, args := #[s, x], argTypes := #[t, t] }) (hs : a.eval s = vs) (hx : a.eval x = vx) (hr : (Builtin.append_ #[t, t] o.type #[vs, vx]).run P W = .ok v1 w1) (h : K (a.put o.dst v1) w1) :
    if Region.wanted o (yielded ops a.tmps) = true then Oper.wp P o a W K Q else K (a.put o.dst undef) W := by
  rw [if_pos hw]
  unfold Oper.wp execOp
  simp only [ho, resolve, invoke, builtin, Sem.run_bind, Sem.run_pure, Result.andThen_ok, List.map_toArray, List.map_cons, List.map_nil, hs, hx, hr]
  exact h
end
theorem one_reads {W : World} {g : Nat} {p : S27} (h : W.heap[g]? = some (.cells #[.int .u64 p.f0, .int .u64 p.f1, .string p.f2, .int .i64 p.f3, .int .u64 p.f4] 27 (0, 0))) : Kd.C k27 W (some ⟨g, 0, none⟩) 1 [p] := by
  refine ⟨rfl, by omega, fun _ => ⟨_, rfl, fun j q hj => ?_⟩⟩
  rcases j with _ | j
  · simp only [List.getElem?_cons_zero, Option.some.injEq] at hj
    subst hj
    refine ⟨_, rfl, k27_mk _ _, fun i u hu => ?_⟩
    have hadd : (⟨g, 0, none⟩ : Addr).add (0 * k27.sz + i) = ⟨g, i, none⟩ := by unfold Addr.add; split <;> simp_all
    rw [hadd]
    simp only [World.cell?, h]
    simpa using hu
  · simp at hj
def mailbox_Send.f (l0 : List S27) (a0 a1 : Int) (a2 : ByteArray) (a3 a4 : Int) : Option (List S27 × Int) :=
  if (l0.length + 1) * 48 ≤ 140737488355328 then
    if a0 = a1 then some ([], 1)
    else if 16 ≤ l0.countP (fun p => p.f1 == a1) then some ([], 6)
    else some (l0 ++ [⟨a0, a1, a2, a3, a4⟩], 0)
  else none
set_option maxHeartbeats 1000000 in
set_option maxRecDepth 100000 in
theorem mailbox_Send.calls (A0 : Option Addr) (c0 : Nat) (l0 : List S27) (a0 a1 : Int) (a2 : ByteArray) (a3 a4 : Int) (r0 : List S27) (r1 : Int) (w : World) (hr0 : Kd.C k27 w A0 l0.length l0) (hc0 : l0.length ≤ c0) (h : mailbox_Send.f l0 a0 a1 a2 a3 a4 = some (r0, r1)) :
    Calls Try.prog 13 #[.slice A0 l0.length c0, .agg #[.int .u64 a0, .int .u64 a1, .string a2, .int .i64 a3, .int .u64 a4]] w fun e w' => ∃ v, e = .returned (.tuple #[v, .int .i64 r1]) ∧ Kd.R k27 27 w' w.heap.size (fun _ => True) v r0 ∧ Below w.heap.size w w' := by
  unfold mailbox_Send.f at h
  split at h
  case isFalse => cases h
  case isTrue hlim =>
  obtain ⟨w1, hw1⟩ : ∃ w1, w.alloc (.cells #[.int .u64 a0, .int .u64 a1, .string a2, .int .i64 a3, .int .u64 a4] 27 (0, 0)) = w1 := ⟨_, rfl⟩
  have hB1 : Below w.heap.size w w1 := by rw [← hw1]; exact below_alloc (Below.refl _ _) _
  have hsz : w1.heap.size = w.heap.size + 1 := by rw [← hw1]; exact Array.size_push _
  have hnew : w1.heap[w.heap.size]? = some (.cells #[.int .u64 a0, .int .u64 a1, .string a2, .int .i64 a3, .int .u64 a4] 27 (0, 0)) := by rw [← hw1]; exact heap_alloc_new _ _
  have hr1 : Kd.C k27 w1 A0 l0.length l0 := Kd.C_below hr0 hB1
  have hq : Hid (∀ W, Below w1.heap.size w1 W → W.cell? ⟨w.heap.size, 0, none⟩ = some (.int .u64 a0) ∧ W.cell? ⟨w.heap.size, 1, none⟩ = some (.int .u64 a1) ∧ W.cell? ⟨w.heap.size, 2, none⟩ = some (.string a2) ∧ W.cell? ⟨w.heap.size, 3, none⟩ = some (.int .i64 a3) ∧ W.cell? ⟨w.heap.size, 4, none⟩ = some (.int .u64 a4)) := Lib.hid fun W hW => by
    obtain ⟨z0, z1, z2, z3, z4, _⟩ := box_cells ((hW.block _ (by omega)).trans hnew)
    exact ⟨z0, z1, z2, z3, z4⟩
  obtain ⟨z0, z1, z2, z3, z4⟩ := hq.out _ (Below.refl _ w1)
  have hcount : mailbox_Count.f l0 a1 = some ((l0.countP fun p => p.f1 == a1 : Nat) : Int) := by
    unfold mailbox_Count.f
    rw [if_pos (by omega)]
  replace hcount := Lib.hid hcount
  clear hnew
  by_cases e01 : a0 = a1
  · rw [if_pos e01] at h
    injection h with h
    injection h with e0 e1
    subst e0 e1 e01
    go_enter Try.func13, Try.ntmps13
    go_wp2
    go_ret2
    exact ⟨_, rfl, Kd.R_nil _ _ _ _ _, hB1⟩
  · rw [if_neg e01] at h
    have e01b : (a0 == a1) = false := beq_eq_false_iff_ne.2 e01
    clear e01
    obtain ⟨n, hn⟩ : ∃ n : Nat, (l0.countP fun p => p.f1 == a1) = n := ⟨_, rfl⟩
    rw [hn] at h hcount
    clear hn
    by_cases h16 : 16 ≤ n
    · rw [if_pos h16] at h
      injection h with h
      injection h with e0 e1
      subst e0 e1
      have h16b : (16 : Int) ≤ (n : Int) := by omega
      go_enter Try.func13, Try.ntmps13
      go_wp2_with (go_at_call 7; refine (mailbox_Count.calls A0 c0 l0 a1 n _ hr1 hc0 hcount.out).mono ?_; rintro e w3 ⟨rfl, hb⟩)
      go_ret2
      exact ⟨_, rfl, Kd.R_nil _ _ _ _ _, below_step hB1 hb⟩
    · rw [if_neg h16] at h
      injection h with h
      injection h with e0 e1
      subst e0 e1
      have h16b : ¬ (16 : Int) ≤ (n : Int) := by omega
      go_enter Try.func13, Try.ntmps13
      go_wp2_with (go_at_call 7; refine (mailbox_Count.calls A0 c0 l0 a1 n _ hr1 hc0 hcount.out).mono ?_; rintro e w3 ⟨rfl, hb⟩; have HB := Aside0.mk hb; clear hb z0 z1 z2 z3 z4)
      refine start_ (n := 7) (S := fun w' => w'.cell? ⟨w.heap.size, 0, none⟩ = some (.int .u64 a0) ∧ w'.cell? ⟨w.heap.size, 1, none⟩ = some (.int .u64 a1) ∧ w'.cell? ⟨w.heap.size, 2, none⟩ = some (.string a2) ∧ w'.cell? ⟨w.heap.size, 3, none⟩ = some (.int .i64 a3) ∧ w'.cell? ⟨w.heap.size, 4, none⟩ = some (.int .u64 a4)) (ds := []) #[false, false, false, false, false, false, false] (by kernel_rfl) rfl rfl ⟨(hq.out _ HB.out.drew).1, (hq.out _ HB.out.drew).2.1, (hq.out _ HB.out.drew).2.2.1, (hq.out _ HB.out.drew).2.2.2.1, (hq.out _ HB.out.drew).2.2.2.2⟩ (fun hHeld => ?_)
      refine pure_ (i := 0) (N := some 18) (v := ?_) (a' := ?_) #[true, false, false, false, false, false, false] rfl rfl (by kernel_rfl) (fun _ _ _ h => h) (Or.inl ⟨by rfl, ?_⟩) ?_ ?_
      rotate_left
      · intro w'
        go_simp
        with_reducible rfl
      rotate_left
      · simp only [Act.put, List.setIfInBounds_toArray, List.set_cons_zero, List.set_cons_succ, i64_w, i32_w]
        rfl
      refine take_ (i := 2) (N := some 20) (v := ?_) (a' := ?_) #[true, false, true, false, false, false, false] rfl rfl (by kernel_rfl) (fun _ _ _ h => h) (Or.inl ⟨by rfl, ?_⟩) hHeld ?_ ?_
      rotate_left
      · rintro w' ⟨s0, s1, s2, s3, s4⟩
        go_simp
        with_reducible rfl
      rotate_left
      · simp only [Act.put, List.setIfInBounds_toArray, List.set_cons_zero, List.set_cons_succ, i64_w, i32_w]
        rfl
      refine join_ (σ := Nat) 3 #[true, true, true, true, false, false, false] (fun s_ => [(19, .slice A0 l0.length l0.length), (21, .slice (some ⟨s_, 0, none⟩) 1 1)]) (fun s_ w' => (w'.cell? ⟨w.heap.size, 0, none⟩ = some (.int .u64 a0) ∧ w'.cell? ⟨w.heap.size, 1, none⟩ = some (.int .u64 a1) ∧ w'.cell? ⟨w.heap.size, 2, none⟩ = some (.string a2) ∧ w'.cell? ⟨w.heap.size, 3, none⟩ = some (.int .i64 a3) ∧ w'.cell? ⟨w.heap.size, 4, none⟩ = some (.int .u64 a4)) ∧ w'.heap[s_]? = some (.cells #[.int .u64 a0, .int .u64 a1, .string a2, .int .i64 a3, .int .u64 a4] 27 (0, 0)) ∧ Below w1.heap.size w1 w') ?_ ?_
      rotate_left
      · intro hCont
        refine two_ (i := 1) (j := 3) (Ni := some 19) (Nj := some 21) #[true, true, true, false, false, false, false] #[true, false, true, true, false, false, false] rfl rfl rfl rfl (by kernel_rfl) (by decide) (by decide) (fun K hK => ?_) (fun K hK => ?_)
        · skip
          refine goes_ Try.func24 (by kernel_rfl) rfl #[.slice A0 l0.length c0] (by rfl) rfl rfl (by simp only [List.map_toArray, List.map_cons, List.map_nil]; rfl) ?_
          with_reducible refine (clip_calls A0 c0 l0 _ hc0).mono ?_
          rintro e wq ⟨rfl, rfl⟩
          refine ⟨_, rfl, ?_⟩
          refine hK.out _ _ ⟨(hq.out _ HB.out.drew).1, (hq.out _ HB.out.drew).2.1, (hq.out _ HB.out.drew).2.2.1, (hq.out _ HB.out.drew).2.2.2.1, (hq.out _ HB.out.drew).2.2.2.2⟩ (fun hHeld => ?_)
          clear hK K
          refine norm_ (a' := ?_) ?_ ?_
          rotate_left
          · show Act.put _ (some 19) _ = _
            simp only [Act.put, List.setIfInBounds_toArray, List.set_cons_zero, List.set_cons_succ, i64_w, i32_w]
            rfl
          refine one_ (i := 3) (N := some 21) #[true, true, true, true, false, false, false] rfl rfl (by kernel_rfl) (by decide) (fun K hK => ?_)
          refine value_ (w1 := ?_) (v := ?_) (by rfl) rfl ?_ ?_
          rotate_left 2
          · go_simp
            constructor
            · rfl
            · rfl
          refine hK.out _ _ ⟨(hq.out _ (below_alloc HB.out.drew _)).1, (hq.out _ (below_alloc HB.out.drew _)).2.1, (hq.out _ (below_alloc HB.out.drew _)).2.2.1, (hq.out _ (below_alloc HB.out.drew _)).2.2.2.1, (hq.out _ (below_alloc HB.out.drew _)).2.2.2.2⟩ (fun hHeld => ?_)
          clear hK K
          refine norm_ (a' := ?_) ?_ ?_
          rotate_left
          · show Act.put _ (some 21) _ = _
            simp only [Act.put, List.setIfInBounds_toArray, List.set_cons_zero, List.set_cons_succ, i64_w, i32_w]
            rfl
          exact norm_ (by simp only [putAll, Act.put, List.setIfInBounds_toArray, List.set_cons_zero, List.set_cons_succ]) (hCont w3.heap.size _ ⟨hq.out _ (below_alloc HB.out.drew _), heap_alloc_new _ _, (below_alloc HB.out.drew _)⟩)
        · skip
          refine value_ (w1 := ?_) (v := ?_) (by rfl) rfl ?_ ?_
          rotate_left 2
          · go_simp
            constructor
            · rfl
            · rfl
          refine hK.out _ _ ⟨(hq.out _ (below_alloc HB.out.drew _)).1, (hq.out _ (below_alloc HB.out.drew _)).2.1, (hq.out _ (below_alloc HB.out.drew _)).2.2.1, (hq.out _ (below_alloc HB.out.drew _)).2.2.2.1, (hq.out _ (below_alloc HB.out.drew _)).2.2.2.2⟩ (fun hHeld => ?_)
          clear hK K
          refine norm_ (a' := ?_) ?_ ?_
          rotate_left
          · show Act.put _ (some 21) _ = _
            simp only [Act.put, List.setIfInBounds_toArray, List.set_cons_zero, List.set_cons_succ, i64_w, i32_w]
            rfl
          refine one_ (i := 1) (N := some 19) #[true, true, true, true, false, false, false] rfl rfl (by kernel_rfl) (by decide) (fun K hK => ?_)
          refine goes_ Try.func24 (by kernel_rfl) rfl #[.slice A0 l0.length c0] (by rfl) rfl rfl (by simp only [List.map_toArray, List.map_cons, List.map_nil]; rfl) ?_
          with_reducible refine (clip_calls A0 c0 l0 _ hc0).mono ?_
          rintro e wq ⟨rfl, rfl⟩
          refine ⟨_, rfl, ?_⟩
          refine hK.out _ _ ⟨(hq.out _ (below_alloc HB.out.drew _)).1, (hq.out _ (below_alloc HB.out.drew _)).2.1, (hq.out _ (below_alloc HB.out.drew _)).2.2.1, (hq.out _ (below_alloc HB.out.drew _)).2.2.2.1, (hq.out _ (below_alloc HB.out.drew _)).2.2.2.2⟩ (fun hHeld => ?_)
          clear hK K
          refine norm_ (a' := ?_) ?_ ?_
          rotate_left
          · show Act.put _ (some 19) _ = _
            simp only [Act.put, List.setIfInBounds_toArray, List.set_cons_zero, List.set_cons_succ, i64_w, i32_w]
            rfl
          exact norm_ (by simp only [putAll, Act.put, List.setIfInBounds_toArray, List.set_cons_zero, List.set_cons_succ]) (hCont w3.heap.size _ ⟨hq.out _ (below_alloc HB.out.drew _), heap_alloc_new _ _, (below_alloc HB.out.drew _)⟩)
      rintro gb w5 ⟨hs5, hlit, hb5⟩
      clear HB
      have HB := Aside0.mk hb5
      clear hb5
      have hHeld : w5.cell? ⟨w.heap.size, 0, none⟩ = some (.int .u64 a0) ∧ w5.cell? ⟨w.heap.size, 1, none⟩ = some (.int .u64 a1) ∧ w5.cell? ⟨w.heap.size, 2, none⟩ = some (.string a2) ∧ w5.cell? ⟨w.heap.size, 3, none⟩ = some (.int .i64 a3) ∧ w5.cell? ⟨w.heap.size, 4, none⟩ = some (.int .u64 a4) := hs5
      refine norm_ (a' := ?_) ?_ ?_
      rotate_left
      · simp only [putAll, Act.put, List.setIfInBounds_toArray, List.set_cons_zero, List.set_cons_succ]
        rfl
      refine one_ (i := 4) (N := some 22) #[true, true, true, true, true, false, false] rfl rfl (by kernel_rfl) (by decide) (fun K hK => ?_)
      obtain ⟨v1, w6, hrun, ho, hbx⟩ := run_append_clip k27 (W := w5) 22 22 27 (.agg #[(.int .u64 0), (.int .u64 0), (.string ⟨#[]⟩), (.int .i64 0), (.int .u64 0)]) 48 Try.underlying22 info27 rfl (by decide) (by omega) A0 l0 [(⟨a0, a1, a2, a3, a4⟩ : S27)] ⟨gb, 0, none⟩ 1 (Kd.C_below hr1 HB.out) (one_reads hlit) (by simp) (fun w1 base ok x cs h => by obtain rfl := k27_open h; exact k27_mkM _ _ _ _) (by simpa using hlim)
      refine clip_step (by rfl) (.tmp 19) (.tmp 21) rfl (by rfl) (by rfl) hrun ?_
      clear hrun hlit hHeld
      have HR := Aside0.mk (Kd.R_lower ho HB.out.size)
      have n0_ := Aside0.mk (below_step HB.out hbx)
      clear HB ho hbx
      have HB := n0_
      clear n0_
      refine hK.out _ _ ⟨(hq.out _ HB.out).1, (hq.out _ HB.out).2.1, (hq.out _ HB.out).2.2.1, (hq.out _ HB.out).2.2.2.1, (hq.out _ HB.out).2.2.2.2⟩ (fun hHeld => ?_)
      clear hK K
      refine norm_ (a' := ?_) ?_ ?_
      rotate_left
      · show Act.put _ (some 22) _ = _
        simp only [Act.put, List.setIfInBounds_toArray, List.set_cons_zero, List.set_cons_succ, i64_w, i32_w]
        rfl
      refine pure_ (i := 5) (N := some 4) (v := ?_) (a' := ?_) #[true, true, true, true, true, true, false] rfl rfl (by kernel_rfl) (fun _ _ _ h => h) (Or.inl ⟨by rfl, ?_⟩) ?_ ?_
      rotate_left
      · intro w'
        go_simp
        with_reducible rfl
      rotate_left
      · simp only [Act.put, List.setIfInBounds_toArray, List.set_cons_zero, List.set_cons_succ, i64_w, i32_w]
        rfl
      refine pure_ (i := 6) (N := some 5) (v := ?_) (a' := ?_) #[true, true, true, true, true, true, true] rfl rfl (by kernel_rfl) (fun _ _ _ h => h) (Or.inl ⟨by rfl, ?_⟩) ?_ ?_
      rotate_left
      · intro w'
        go_simp
        with_reducible rfl
      rotate_left
      · simp only [Act.put, List.setIfInBounds_toArray, List.set_cons_zero, List.set_cons_succ, i64_w, i32_w]
        rfl
      refine done_ (by kernel_rfl) ?_
      go_wp2
      go_ret2
      exact ⟨_, rfl, Kd.R_lower HR.out (by omega), below_step hB1 HB.out⟩
end Go.Proofs.Ytganchnnfjdooaa.Q
