/- relay's questions of mails: slices.ContainsFunc with Push's function, Clip, Clone; append onto a clipped row.
   Conditions: the lists are read as mails. -/
import Derived.Test.YtbmfcikjhnnnbaaHAll
import Derived.BigQuiet
namespace Go.Proofs.Ytbmfcikjhnnnbaa.Q
open Go.RowKit Go.Proofs.YtbmfcikjhnnnbaaW.PrintWords Go.Proofs.YtbmfcikjhnnnbaaW.PrintLast Go.Proofs.YtbmfcikjhnnnbaaW.PrintMore
set_option linter.unusedVariables false
set_option linter.unusedSimpArgs false

/-- append(slices.Clip(s), x): the row is new. -/
theorem run_append_clip {P : Program} {α : Type} (d : Kd α) {Rr : α → List Value → Prop} {W : World} (t ty e : TypeId) (z : Value) (bytes : Nat)
    (ht : P.underlying t = some (.slice e)) (hinfo : (P.info? e).map (fun i => (i.zero, i.size, i.bytes)) = some (some z, d.sz, bytes)) (hz : z.cells.size = d.sz) (hs0 : 0 < d.sz) (hb0 : 0 < bytes)
    (A : Option Addr) (xs ys : List α) (ad : Addr) (c : Nat) (HX : ReadsRow Rr d.sz W A xs.length xs) (HY : ReadsRow Rr d.sz W (some ad) ys.length ys) (hy : 0 < ys.length)
    (hKM : ∀ w1 base ok x cs, Rr x cs → d.M w1 base ok x cs) (hl : (xs.length + ys.length) * bytes ≤ 140737488355328) :
    ∃ v1 w1, (Builtin.append_ #[t, t] ty #[.slice A xs.length xs.length, .slice (some ad) ys.length c]).run P W = .ok v1 w1 ∧ d.R e w1 W.heap.size (fun _ => True) v1 (xs ++ ys) ∧ Below W.heap.size W w1 := by
  obtain ⟨i0, hi, hzz⟩ := Option.map_eq_some_iff.1 hinfo
  simp only [Prod.mk.injEq] at hzz
  obtain ⟨hz0, hz1, hz2⟩ := hzz
  have hlen : xs.length + ys.length ≤ 140737488355328 := Nat.le_trans (Nat.le_mul_of_pos_right _ hb0) hl
  obtain ⟨news, hnr, hnc⟩ := ReadsRow.inner_ HY
  have holds : ∃ olds, Reps Rr d.sz xs olds ∧ ∀ b, A = some b → ∀ j v, olds[j]? = some v → W.cell? (b.add j) = some v := by
    rcases A with _ | b
    · have h0 : xs = [] := by
        rcases Nat.eq_zero_or_pos xs.length with h | h
        · exact List.eq_nil_of_length_eq_zero h
        · obtain ⟨ad, h', _⟩ := HX.2.2 h
          cases h'
      subst h0
      exact ⟨[], Reps.none _ _, fun b h => by cases h⟩
    · obtain ⟨olds, h1, h2⟩ := ReadsRow.inner_ HX
      exact ⟨olds, h1, fun b' h => by cases h; exact h2⟩
  obtain ⟨olds, hor, hoc⟩ := holds
  have hres : ∀ (old : Nat), d.R e (W.drew.alloc (.cells (olds.toArray ++ news.toArray ++ Builtin.zeroCells z.cells (grownCap W (xs.length + ys.length) old e - (xs.length + ys.length))) e)) W.heap.size (fun _ => True) (.slice (some ⟨W.heap.size, 0, none⟩) (xs.length + ys.length) (grownCap W (xs.length + ys.length) old e)) (xs ++ ys) := by
    intro old
    have hge := grownCap_ge W (xs.length + ys.length) old e
    have hcm : grownCap W (xs.length + ys.length) old e ≤ maxLen := grownCap_le_maxLen W (xs.length + ys.length) old e (by simp only [maxLen]; omega)
    have hlen2 : (olds ++ news).length = (xs.length + ys.length) * d.sz := by rw [List.length_append, hor.1, hnr.1, Nat.add_mul]
    refine ⟨fun _ _ => trivial, olds ++ news, ⟨by rw [hlen2, List.length_append], .inr ⟨W.heap.size, _, _, by rw [List.length_append], Nat.le_refl _, heap_alloc_new W.drew _, by rw [List.length_append]; exact hge, hcm, ?_, ?_⟩⟩, ?_⟩
    · simp only [Array.size_append, List.size_toArray, size_zeroCells, hz, hor.1, hnr.1, ← Nat.add_mul]
      congr 1
      omega
    · simp only [Array.toList_append, List.append_assoc]
      rw [List.length_append, ← List.append_assoc, ← hlen2]
      exact List.take_left
    · exact (Kd.reps_append hor hnr).imp_ (fun p q hp => hKM _ _ _ p q hp)
  have hbel : ∀ o, Below W.heap.size W (W.drew.alloc o) := fun o => below_alloc (below_drew (Below.refl _ _)) _
  rcases A with _ | b
  · have h0 : xs = [] := by
      rcases Nat.eq_zero_or_pos xs.length with h | h
      · exact List.eq_nil_of_length_eq_zero h
      · obtain ⟨ad, h', _⟩ := HX.2.2 h
        cases h'
    subst h0
    obtain rfl : olds = [] := List.eq_nil_of_length_eq_zero (by simpa using hor.1)
    have hr := run_append_nil (P := P) W t ty e i0 z ht hi hz0 ad ys.length c news (by rw [hnr.1, hz1]) hnc hy (by omega) (by rw [hz2]; have hb := hl; simp only [List.length_nil, Nat.zero_add] at hb; omega)
    have h2 := hres 0
    simp only [List.length_nil, Nat.zero_add, List.nil_append, Array.empty_append] at h2
    refine ⟨_, _, hr, ?_, hbel _⟩
    simpa using h2
  · have hr := run_append_grow (P := P) W t ty e i0 z ht hi hz0 b xs.length xs.length olds (by rw [hor.1, hz1]) (hoc b rfl) ad ys.length c news (by rw [hnr.1, hz1]) hnc (by omega) (by omega) (by rw [hz2]; exact growslice_fits (by omega) hl)
    exact ⟨_, _, hr, hres xs.length, hbel _⟩
section
variable {P : Program} {ops : Array Oper} {o : Oper} {a : Act} {Q : Exit → Act → World → Prop} {K : Act → World → Prop}
theorem clip_step {W w1 : World} {v1 : Value} (hw : Region.wanted o (yielded ops a.tmps) = true) (s x : Operand) {t : TypeId} {vs vx : Value}
    (ho : o.op = .call { callee := .builtin .append, args := #[s, x], argTypes := #[t, t] }) (hs : a.eval s = vs) (hx : a.eval x = vx) (hr : (Builtin.append_ #[t, t] o.type #[vs, vx]).run P W = .ok v1 w1) (h : K (a.put o.dst v1) w1) :
    if Region.wanted o (yielded ops a.tmps) = true then Oper.wp P o a W K Q else K (a.put o.dst undef) W := by
  rw [if_pos hw]
  unfold Oper.wp execOp
  simp only [ho, resolve, invoke, builtin, Sem.run_bind, Sem.run_pure, Result.andThen_ok, List.map_toArray, List.map_cons, List.map_nil, hs, hx, hr]
  exact h
end
theorem clip_calls (A0 : Option Addr) (c0 : Nat) (l0 : List S54) (w : World) (hc0 : l0.length ≤ c0) :
    Calls Try.prog 28 #[.slice A0 l0.length c0] w fun e w' => e = .returned (.slice A0 l0.length l0.length) ∧ w' = w := by
  go_enter Try.func28, Try.ntmps28
  go_wp2
  go_ret
  exact ⟨rfl, rfl⟩
theorem rd54_nat (l : List S54) (i : Nat) (h : i < l.length) : rd_T54 l (i : Int) = l[i] := by simp [rd_T54, h]
theorem rd57_nat (l : List S57) (i : Nat) (h : i < l.length) : rd_T57 l (i : Int) = l[i] := by simp [rd_T57, h]
abbrev mv (m : S54) : Value := .agg #[.int .u64 m.f0, .string m.f1, .int .u64 m.f2]
theorem push1_calls (m : S54) (gs : Nat) (s : ByteArray) (w : World) (hg : w.heap[gs]? = some (.cells #[.string s] 9 (0, 0))) :
    Calls Try.prog 27 #[mv m, .pointer (some ⟨gs, 0, none⟩)] w fun e w' => e = .returned (.bool (m.f1.toList == s.toList)) ∧ Below w.heap.size w w' := by
  obtain ⟨w1, hw1⟩ : ∃ w1, w.alloc (.cells #[.int .u64 m.f0, .string m.f1, .int .u64 m.f2] 54 (0, 0)) = w1 := ⟨_, rfl⟩
  have hb1 : Below w.heap.size w w1 := by rw [← hw1]; exact below_alloc (Below.refl _ _) _
  have hK1 : w1.heap[w.heap.size]? = some (.cells #[.int .u64 m.f0, .string m.f1, .int .u64 m.f2] 54 (0, 0)) := by rw [← hw1]; exact heap_alloc_new _ _
  have z1 : w1.cell? ⟨w.heap.size, 1, none⟩ = some (.string m.f1) := (blk_cell hK1 1).trans rfl
  have zs : w1.cell? ⟨gs, 0, none⟩ = some (.string s) := (blk_cell ((hb1.block _ (blk_lt hg)).trans hg) 0).trans rfl
  clear hK1 hg
  go_enter Try.func27, Try.ntmps27
  go_wp2
  go_ret
  exact ⟨rfl, hb1⟩
def hasB (l : List S54) (s : ByteArray) : Bool := (List.range l.length).any fun i => (rd_T54 l (i : Int)).f1.toList == s.toList
theorem hasB_yes {l : List S54} {s : ByteArray} (i : Nat) (hi : i < l.length) (h : ((rd_T54 l (i : Int)).f1.toList == s.toList) = true) : hasB l s = true := List.any_eq_true.2 ⟨i, List.mem_range.2 hi, h⟩
theorem hasB_no {l : List S54} {s : ByteArray} (h : ∀ i : Nat, i < l.length → ((rd_T54 l (i : Int)).f1.toList == s.toList) = false) : hasB l s = false := by
  unfold hasB
  rw [List.any_eq_false]
  intro i hi
  rw [h i (List.mem_range.1 hi)]
  decide
set_option maxHeartbeats 1000000 in
set_option maxRecDepth 100000 in
theorem indexM_calls (A0 : Option Addr) (c0 : Nat) (l0 : List S54) (gs : Nat) (s : ByteArray) (w : World) (hr0 : k54.C w A0 l0.length l0) (hc0 : l0.length ≤ c0) (hlen : l0.length ≤ 1000000) (hg : w.heap[gs]? = some (.cells #[.string s] 9 (0, 0))) :
    Calls Try.prog 47 #[.slice A0 l0.length c0, .func (.func 27) #[] #[.pointer (some ⟨gs, 0, none⟩)]] w fun e w' => (∃ k : Int, e = .returned (.int .i64 k) ∧ hasB l0 s = decide (0 ≤ k)) ∧ Below w.heap.size w w' := by
  have hgl := blk_lt hg
  go_enter Try.func47, Try.ntmps47
  go_wp2
  go_loopw [8] (fun v wr => ∃ i : Nat, i ≤ l0.length ∧ v = .int .i64 (i : Int) ∧ (∀ j : Nat, j < i → ((rd_T54 l0 (j : Int)).f1.toList == s.toList) = false) ∧ Below w.heap.size w wr) (fun v _ => l0.length - (intOf v).toNat)
  case atStart => exact ⟨0, by omega, rfl, fun j h => absurd h (Nat.not_lt_zero j), Below.refl _ _⟩
  case round =>
    obtain ⟨i, hi, rfl, hno, hB⟩ := hrel
    by_cases hlt : (i : Int) < l0.length
    · obtain ⟨ad, eA, q0, q1, q2⟩ := at_T54 (Kd.C_below hr0 hB) (i : Int) (by omega) hlt
      subst eA
      rw [Int.toNat_natCast] at q0 q1 q2
      have hyes := hasB_yes (l := l0) (s := s) i (by omega)
      have hstep : ((rd_T54 l0 (i : Int)).f1.toList == s.toList) = false → ∀ j : Nat, j < i + 1 → ((rd_T54 l0 (j : Int)).f1.toList == s.toList) = false := fun h j hj => by
        by_cases e : j = i
        · subst e; exact h
        · exact hno j (by omega)
      generalize rd_T54 l0 (i : Int) = m at q0 q1 q2 hyes hstep
      have hc := Aside0.mk (push1_calls m gs s wr ((hB.block _ hgl).trans hg))
      replace hno := Aside0.mk hno
      replace hyes := Aside0.mk hyes
      replace hstep := Aside0.mk hstep
      go_wp2_with fail
      refine hc.out.mono ?_; rintro e_ w2 ⟨rfl, hb⟩
      have hB2 := Aside0.mk (below_step hB hb)
      clear hc hb q0 q1 q2
      cases hm : (m.f1.toList == s.toList) with
      | true =>
        have hf := Lib.hid (hyes.out hm)
        go_wp2
        go_ret
        exact ⟨⟨(i : Int), rfl, by rw [hf.out, decide_eq_true (by omega)]⟩, hB2.out⟩
      | false =>
        have hs := Aside0.mk (hstep.out hm)
        go_wp2
        go_roundw
        case rel => exact ⟨i + 1, by omega, by go_num, hs.out, hB2.out⟩
        case measure => simp [intOf]; omega
    · obtain rfl : i = l0.length := by omega
      have hf := Lib.hid (hasB_no hno)
      go_wp2
      go_ret
      exact ⟨⟨-1, rfl, by rw [hf.out]; rfl⟩, hB⟩
theorem containsM_calls (A0 : Option Addr) (c0 : Nat) (l0 : List S54) (gs : Nat) (s : ByteArray) (w : World) (hr0 : k54.C w A0 l0.length l0) (hc0 : l0.length ≤ c0) (hlen : l0.length ≤ 1000000) (hg : w.heap[gs]? = some (.cells #[.string s] 9 (0, 0))) :
    Calls Try.prog 26 #[.slice A0 l0.length c0, .func (.func 27) #[] #[.pointer (some ⟨gs, 0, none⟩)]] w fun e w' => e = .returned (.bool (hasB l0 s)) ∧ Below w.heap.size w w' := by
  have hi := Aside0.mk (indexM_calls A0 c0 l0 gs s w hr0 hc0 hlen hg)
  go_enter Try.func26, Try.ntmps26
  go_wp2_with fail
  refine hi.out.mono ?_; rintro e_ w2 ⟨⟨k, rfl, hk⟩, hb⟩
  replace hk := Lib.hid hk
  clear hi
  go_wp2
  go_ret
  exact ⟨by rw [hk.out]; rfl, hb⟩
end Go.Proofs.Ytbmfcikjhnnnbaa.Q
namespace Go.Proofs.Ytbmfcikjhnnnbaa.Q
open Go.RowKit Go.Proofs.YtbmfcikjhnnnbaaW.PrintWords Go.Proofs.YtbmfcikjhnnnbaaW.PrintLast Go.Proofs.YtbmfcikjhnnnbaaW.PrintMore
set_option linter.unusedVariables false
set_option linter.unusedSimpArgs false

attribute [local go_sem] max2_int min2_int max_two min_two max_three min_three max_four min_four
theorem cloneM_nil (c0 : Nat) (w : World) : Calls Try.prog 42 #[.slice none 0 c0] w fun e w' => e = .returned (.slice none 0 0) ∧ w = w' := by
  have hnil := fun W => Lib.run_eql_slice_nil (P := Try.prog) W 39 54 none 0 c0 0 0 Try.underlying39
  go_enter Try.func42, Try.ntmps42
  go_wp2
  go_ret
  exact ⟨rfl, rfl⟩
set_option maxHeartbeats 1000000 in
set_option maxRecDepth 100000 in
theorem cloneM_calls (A0 : Option Addr) (c0 : Nat) (l0 : List S54) (w : World) (hr0 : Kd.C k54 w A0 l0.length l0) (hc0 : l0.length ≤ c0) (hlim : l0.length ≤ 1000000) :
    Calls Try.prog 42 #[.slice A0 l0.length c0] w fun e w' => ∃ v, e = .returned v ∧ Kd.R k54 54 w' w.heap.size (fun _ => True) v l0 ∧ Below w.heap.size w w' := by
  rcases A0 with _ | ad
  · have h0 : l0 = [] := by
      rcases Nat.eq_zero_or_pos l0.length with h | h
      · exact List.eq_nil_of_length_eq_zero h
      · obtain ⟨ad, h', _⟩ := hr0.2.2 h
        cases h'
    subst h0
    refine (cloneM_nil c0 w).mono ?_
    rintro e w' ⟨rfl, rfl⟩
    exact ⟨_, rfl, Kd.R_nil _ _ _ _ _, Below.refl _ _⟩
  · have hnil := fun W => Lib.run_eql_slice_nil (P := Try.prog) W 39 54 (some ad) l0.length c0 0 0 Try.underlying39
    have HB := Aside0.mk (Below.refl w.heap.size w)
    go_enter Try.func42, Try.ntmps42
    go_wp2_with (first | ((with_reducible refine gate_dst (N := 5) rfl ?_); refine Kd.R_lit k54 _ 54 ?hg (N := 5) ?hd (xs := ([] : List S54)) (inner := []) (ok := fun _ => True) (okp := fun _ => True) ?hr ?hp (fun _ hk => hk) trivial (Below.refl _ _) (Nat.le_refl _) (by simp) ?_; (case hd => rfl); (case hg => rfl); (case hr => first | (go_simp; done) | (go_simp; rfl)); (case hp => exact (Reps.none _ _)); intro v1 w1 ho1 hb1 hg1 hnew1; clear hg1 hnew1; replace HB := Aside0.mk hb1; replace ho1 := Aside0.mk ho1; clear hb1) | ((with_reducible refine gate_builtin (b := .append) (xs := #[.tmp 5, .tmp 6]) rfl ?_); at_builtin; refine Kd.R_append_rows k54 (w0 := w) w.heap.size rfl (.tmp 5) (.tmp 6) 39 54 (.agg #[(.int .u64 0), (.string ⟨#[]⟩), (.int .u64 0)]) 32 rfl Try.underlying39 info54 rfl (by show 0 < 3; omega) (by omega) _ [] l0 _ _ _ (fun _ => True) (fun _ => False) rfl rfl ho1.out (Kd.C_below hr0 HB.out) (fun _ _ h => by obtain rfl := k54_open h; exact k54_mkM _ _ _ _) (fun _ h => h.elim) (fun _ _ => trivial) HB.out HB.out.size (by simp only [List.length_nil]; omega) ?_; intro v2 w2 ho hb hg hat; clear hg hat; replace ho := Aside0.mk ho; replace HB := Aside0.mk hb; clear hb))
    go_ret
    exact ⟨_, rfl, ho.out, HB.out⟩
/-- The users of boxes that may be rise. -/
theorem right_rises {now next : Int} {l : List S57} (h : rowB now next l = true) : ∀ (j i : Nat), i < j → j < l.length → (rd_T57 l (i : Int)).f0 < (rd_T57 l (j : Int)).f0 := by
  have hr : ∀ j : Nat, 0 < j → j < l.length → (rd_T57 l ((j - 1 : Nat) : Int)).f0 < (rd_T57 l (j : Int)).f0 := by
    intro j h0 h1
    unfold rowB at h
    have h2 := List.all_eq_true.1 h j (List.mem_range.2 h1)
    unfold okS at h2
    have h3 := (Bool.and_eq_true_iff.1 h2).2
    rw [decide_eq_false (by omega), Bool.false_or] at h3
    have h4 := of_decide_eq_true h3
    rwa [show ((j : Int) - 1) = ((j - 1 : Nat) : Int) by omega] at h4
  intro j
  induction j with
  | zero => intro i h; omega
  | succ j ih =>
    intro i h1 h2
    have h3 := hr (j + 1) (by omega) h2
    rw [Nat.add_sub_cancel] at h3
    by_cases e : i = j
    · subst e; exact h3
    · have := ih i (by omega) (by omega)
      omega
/-- In a list that rises the user's box is found just where it is. -/
theorem found_no {now next : Int} {l : List S57} {u : Int} {i : Nat} (h : rowB now next l = true) (hf : foundR l u i false) : ∀ k : Nat, k < l.length → (rd_T57 l (k : Int)).f0 ≠ u := by
  obtain ⟨h1, h2, h3, h4⟩ := hf
  intro k hk
  rcases Nat.lt_trichotomy k i with hlt | rfl | hgt
  · have := h2 (by omega)
    by_cases e : k = i - 1
    · subst e; omega
    · have := right_rises h (i - 1) k (by omega) (by omega)
      omega
  · rw [decide_eq_true hk, Bool.true_and] at h4
    exact fun e => by rw [e] at h4; simp at h4
  · have a := h3 (by omega)
    have b := right_rises h k i hgt hk
    omega
theorem found_yes {l : List S57} {u : Int} {i : Nat} (hf : foundR l u i true) : i < l.length ∧ (rd_T57 l (i : Int)).f0 = u := by
  obtain ⟨h1, h2, h3, h4⟩ := hf
  have := h4.symm
  rw [Bool.and_eq_true_iff] at this
  exact ⟨of_decide_eq_true this.1, by simpa using this.2⟩
theorem rel_row {l : List S57} {now next : Int} (h : relB l now next = true) : rowB now next l = true := (Bool.and_eq_true_iff.1 h).2
theorem rel_len {l : List S57} {now next : Int} (h : relB l now next = true) : l.length ≤ 8 := of_decide_eq_true (Bool.and_eq_true_iff.1 (Bool.and_eq_true_iff.1 h).1).1
abbrev rv (A : Option Addr) (n c : Nat) (now next : Int) : Value := .agg #[.slice A n c, .int .u64 now, .int .u64 next]
theorem find_calls (A0 : Option Addr) (c0 : Nat) (l0 : List S57) (now next u : Int) (w : World) (hr0 : Kd.C k57 w A0 l0.length l0) (hc0 : l0.length ≤ c0) (hlen : l0.length ≤ 1000000) :
    Calls Try.prog 25 #[rv A0 l0.length c0 now next, .int .u64 u] w fun e w' => FoundE l0 u e ∧ Below w.heap.size w w' := by
  obtain ⟨w1, hw1⟩ : ∃ w1, w.alloc (.cells #[.slice A0 l0.length c0, .int .u64 now, .int .u64 next] 25 (0, 0)) = w1 := ⟨_, rfl⟩
  have hb1 : Below w.heap.size w w1 := by rw [← hw1]; exact below_alloc (Below.refl _ _) _
  have hK1 : w1.heap[w.heap.size]? = some (.cells #[.slice A0 l0.length c0, .int .u64 now, .int .u64 next] 25 (0, 0)) := by rw [← hw1]; exact heap_alloc_new _ _
  obtain ⟨z0, z1, z2⟩ := box3 hK1
  have hs := Aside0.mk (search_calls A0 c0 l0 u w1 (Kd.C_below hr0 hb1) hc0 hlen)
  clear hK1
  go_enter Try.func25, Try.ntmps25
  go_wp2_with fail
  refine hs.out.mono ?_; rintro e_ w2 ⟨⟨i, is, rfl, hf⟩, hb⟩
  replace hf := Lib.hid hf
  clear hs
  go_wp2
  go_ret2
  exact ⟨⟨i, is, rfl, hf.out⟩, below_step hb1 hb⟩
/-- What relay.Pull answers. -/
def PullE (l : List S57) (now next u : Int) (e : Ending) (w' : World) : Prop :=
  (relB l now next = false ∧ e = .returned (.tuple #[.slice none 0 0, .int .i64 1])) ∨
  (relB l now next = true ∧ (∀ k : Nat, k < l.length → (rd_T57 l (k : Int)).f0 ≠ u) ∧ e = .returned (.tuple #[.slice none 0 0, .int .i64 5])) ∨
  (relB l now next = true ∧ ∃ (i : Nat) (x : S57) (A : Option Addr) (c : Nat), i < l.length ∧ rd_T57 l (i : Int) = x ∧ x.f0 = u ∧ e = .returned (.tuple #[.slice A (x.f1.take 5).length c, .int .i64 0]) ∧ (x.f1.take 5).length ≤ c ∧ k54.C w' A (x.f1.take 5).length (x.f1.take 5))
set_option maxHeartbeats 2000000 in
set_option maxRecDepth 100000 in
theorem pull_calls (A0 : Option Addr) (c0 : Nat) (l0 : List S57) (now next u : Int) (w : World) (hr0 : Kd.C k57 w A0 l0.length l0) (hc0 : l0.length ≤ c0) (hlen : l0.length ≤ 1000000) (hwf : wfB l0) (hnow : 0 ≤ now ∧ now ≤ 18446744073709551615) :
    Calls Try.prog 19 #[rv A0 l0.length c0 now next, .int .u64 u] w fun e w' => PullE l0 now next u e w' ∧ Below w.heap.size w w' := by
  obtain ⟨w1, hw1⟩ : ∃ w1, w.alloc (.cells #[.slice A0 l0.length c0, .int .u64 now, .int .u64 next] 25 (0, 0)) = w1 := ⟨_, rfl⟩
  have hb1 : Below w.heap.size w w1 := by rw [← hw1]; exact below_alloc (Below.refl _ _) _
  have hK1 : w1.heap[w.heap.size]? = some (.cells #[.slice A0 l0.length c0, .int .u64 now, .int .u64 next] 25 (0, 0)) := by rw [← hw1]; exact heap_alloc_new _ _
  obtain ⟨z0, z1, z2⟩ := box3 hK1
  have hr1 := Kd.C_below hr0 hb1
  have hfc := Aside0.mk (find_calls A0 c0 l0 now next u w1 hr1 hc0 hlen)
  go_enter Try.func19, Try.ntmps19
  go_wp2_with fail
  refine hfc.out.mono ?_; rintro e_ w2 ⟨⟨i, is, rfl, hf⟩, hb2⟩
  have hr2 := Kd.C_below hr1 hb2
  have hrc := Aside0.mk (right_calls A0 c0 l0 now next w2 hr2 hwf hnow)
  replace hf := Lib.hid hf
  clear z0 z1 z2 hfc
  obtain ⟨z0, z1, z2⟩ := box3 ((hb2.block _ (blk_lt hK1)).trans hK1)
  go_wp2_with fail
  refine hrc.out.mono ?_; rintro e_ w3 ⟨rfl, hb3⟩
  have hB23 := below_step hb2 hb3
  have hB3 := Aside0.mk (below_step hb1 hB23)
  clear z0 z1 z2 hrc
  obtain ⟨z0, z1, z2⟩ := box3 ((hB23.block _ (blk_lt hK1)).trans hK1)
  cases hR : relB l0 now next with
  | false =>
    have hfin : ∀ W, Hid (PullE l0 now next u (.returned (.tuple #[.slice none 0 0, .int .i64 1])) W) := fun W => Lib.hid (.inl ⟨hR, rfl⟩)
    go_wp2
    go_ret2
    exact ⟨(hfin _).out, hB3.out⟩
  | true =>
    cases is with
    | false =>
      have hfin : ∀ W, Hid (PullE l0 now next u (.returned (.tuple #[.slice none 0 0, .int .i64 5])) W) := fun W => Lib.hid (.inr (.inl ⟨hR, found_no (rel_row hR) hf.out, rfl⟩))
      go_wp2
      go_ret2
      exact ⟨(hfin _).out, hB3.out⟩
    | true =>
      obtain ⟨hi, hu⟩ := found_yes hf.out
      obtain ⟨ad, A4, c4, eA, q0, q4, hc4, hC4⟩ := at_T57 (Kd.C_below hr2 hb3) (i : Int) (by omega) (by omega)
      subst eA
      rw [Int.toNat_natCast] at q0 q4
      obtain ⟨x, hx⟩ : ∃ x, rd_T57 l0 (i : Int) = x := ⟨_, rfl⟩
      rw [hx] at q0 q4 hc4 hC4 hu
      have hx6 := (hwf x (hx ▸ (by rw [rd57_nat l0 i hi]; exact List.getElem_mem hi))).1
      obtain ⟨n, hn⟩ : ∃ n, (x.f1.take 5).length = n := ⟨_, rfl⟩
      have hn5 : n = min x.f1.length 5 := by rw [← hn, List.length_take, Nat.min_comm]
      have hmin : (if (5 : Int) < (x.f1.length : Int) then (5 : Int) else (x.f1.length : Int)) = (n : Int) := by split <;> omega
      have hCt : k54.C w3 A4 n (x.f1.take 5) := by
        rw [← hn]
        rcases Nat.le_total x.f1.length 5 with h | h
        · rw [List.take_of_length_le h]; exact hC4
        · exact Kd.C_take hC4 (by omega)
      obtain ⟨i0, hi0, _, hsz, _⟩ := info_parts info54
      have hcut := cut_to (P := Try.prog) 39 54 .i64 Try.underlying39 hi0 A4 x.f1.length c4 (n : Int) (by omega) (by omega) hc4
      rw [Int.toNat_natCast] at hcut
      have hcl := cloneM_calls A4 c4 (x.f1.take 5) w3 (by rw [hn]; exact hCt) (by rw [hn]; omega) (by rw [hn]; omega)
      rw [hn] at hcl
      replace hcl := Aside0.mk hcl
      have hfin : Hid (∀ A c W, n ≤ c → k54.C W A n (x.f1.take 5) → PullE l0 now next u (.returned (.tuple #[.slice A n c, .int .i64 0])) W) := Lib.hid fun A c W h1 h2 => .inr (.inr ⟨hR, i, x, A, c, hi, hx, hu, by rw [hn], by rw [hn]; exact h1, by rw [hn]; exact h2⟩)
      have hin : (i : Int) < l0.length := by omega
      replace hn := Lib.hid hn
      replace hn5 := Lib.hid hn5
      replace hx := Lib.hid hx
      replace hu := Lib.hid hu
      clear hi0 hCt hC4
      go_wp2_with fail
      refine hcl.out.mono ?_; rintro e_ w4 ⟨v, rfl, hR4, hb4⟩
      obtain ⟨A, c, rfl, hcc, hCC⟩ := Kd.R_reads hR4
      rw [hn.out] at hcc hCC
      have hlen5 := hn.out
      rw [hlen5]
      replace hlen5 := Lib.hid hlen5
      replace hCC := Aside0.mk hCC
      have hB4 := Aside0.mk (below_step hB3.out hb4)
      clear hcl hR4
      go_wp2
      go_ret2
      exact ⟨hfin.out A c _ hcc hCC.out, hB4.out⟩
end Go.Proofs.Ytbmfcikjhnnnbaa.Q
namespace Go.Proofs.Ytbmfcikjhnnnbaa.Q
open Go.RowKit Go.Proofs.YtbmfcikjhnnnbaaW.PrintWords Go.Proofs.YtbmfcikjhnnnbaaW.PrintLast Go.Proofs.YtbmfcikjhnnnbaaW.PrintMore
set_option linter.unusedVariables false
set_option linter.unusedSimpArgs false

def eqM (x y : S54) : Bool := (x.f0 == y.f0) && ((x.f1.toList == y.f1.toList) && (x.f2 == y.f2))
def mailsB (a b : List S54) : Bool := decide (a.length = b.length) && (List.range a.length).all fun i => eqM (rd_T54 a (i : Int)) (rd_T54 b (i : Int))
def oneB (x y : S57) : Bool := (x.f0 == y.f0) && mailsB x.f1 y.f1
def sameB (a b : List S57) : Bool := decide (a.length = b.length) && (List.range a.length).all fun i => oneB (rd_T57 a (i : Int)) (rd_T57 b (i : Int))
theorem mailsB_no {a b : List S54} (i : Nat) (hi : i < a.length) (h : eqM (rd_T54 a (i : Int)) (rd_T54 b (i : Int)) = false) : mailsB a b = false := by
  unfold mailsB
  rw [Bool.and_eq_false_iff]
  right
  rw [List.all_eq_false]
  exact ⟨i, List.mem_range.2 hi, by simp [h]⟩
theorem mailsB_yes {a b : List S54} (hl : a.length = b.length) (h : ∀ i : Nat, i < a.length → eqM (rd_T54 a (i : Int)) (rd_T54 b (i : Int)) = true) : mailsB a b = true := by
  unfold mailsB
  rw [decide_eq_true hl, Bool.true_and, List.all_eq_true]
  exact fun i hi => h i (List.mem_range.1 hi)
theorem sameB_no {a b : List S57} (i : Nat) (hi : i < a.length) (h : oneB (rd_T57 a (i : Int)) (rd_T57 b (i : Int)) = false) : sameB a b = false := by
  unfold sameB
  rw [Bool.and_eq_false_iff]
  right
  rw [List.all_eq_false]
  exact ⟨i, List.mem_range.2 hi, by simp [h]⟩
theorem sameB_yes {a b : List S57} (hl : a.length = b.length) (h : ∀ i : Nat, i < a.length → oneB (rd_T57 a (i : Int)) (rd_T57 b (i : Int)) = true) : sameB a b = true := by
  unfold sameB
  rw [decide_eq_true hl, Bool.true_and, List.all_eq_true]
  exact fun i hi => h i (List.mem_range.1 hi)
theorem rd57_mem (l : List S57) (i : Nat) (h : i < l.length) : rd_T57 l (i : Int) ∈ l := by rw [rd57_nat l i h]; exact List.getElem_mem h
set_option maxHeartbeats 2000000 in
set_option maxRecDepth 100000 in
theorem equal_calls (A0 : Option Addr) (c0 : Nat) (a : List S54) (A1 : Option Addr) (c1 : Nat) (b : List S54) (w : World) (hr0 : Kd.C k54 w A0 a.length a) (hc0 : a.length ≤ c0) (hr1 : Kd.C k54 w A1 b.length b) (hc1 : b.length ≤ c1) (hlim : a.length ≤ 1000000) :
    Calls Try.prog 37 #[.slice A0 a.length c0, .slice A1 b.length c1] w fun e w' => e = .returned (.bool (mailsB a b)) ∧ Below w.heap.size w w' := by
  by_cases hl : a.length = b.length
  · go_enter Try.func37, Try.ntmps37
    have hl' : (a.length : Int) = (b.length : Int) := by omega
    rw [← hl]
    rw [← hl] at hr1 hc1
    go_wp2
    go_loopw [13] (fun vi wr => ∃ i : Nat, i ≤ a.length ∧ vi = .int .i64 (i : Int) ∧ (∀ j : Nat, j < i → eqM (rd_T54 a (j : Int)) (rd_T54 b (j : Int)) = true) ∧ Below w.heap.size w wr) (fun vi _ => a.length - (intOf vi).toNat)
    case atStart => exact ⟨0, by omega, rfl, fun j h => absurd h (Nat.not_lt_zero j), Below.refl _ _⟩
    case round =>
      obtain ⟨i, hi, rfl, hok, hB⟩ := hrel
      by_cases hlt : (i : Int) < a.length
      · obtain ⟨ad, eA, q0, q1, q2⟩ := at_T54 (Kd.C_below hr0 hB) (i : Int) (by omega) hlt
        obtain ⟨bd, eB, p0, p1, p2⟩ := at_T54 (Kd.C_below hr1 hB) (i : Int) (by omega) (by omega)
        subst eA eB
        rw [Int.toNat_natCast] at q0 q1 q2 p0 p1 p2
        have hno := mailsB_no (a := a) (b := b) i (by omega)
        have hyes : eqM (rd_T54 a (i : Int)) (rd_T54 b (i : Int)) = true → ∀ j : Nat, j < i + 1 → eqM (rd_T54 a (j : Int)) (rd_T54 b (j : Int)) = true := fun h j hj => by
          by_cases e : j = i
          · subst e; exact h
          · exact hok j (by omega)
        unfold eqM at hno hyes
        replace hok := Aside0.mk hok
        generalize rd_T54 a (i : Int) = x at q0 q1 q2 hno hyes
        generalize rd_T54 b (i : Int) = y at p0 p1 p2 hno hyes
        replace hno := Aside0.mk hno
        replace hyes := Aside0.mk hyes
        cases h0 : (x.f0 == y.f0) with
        | false =>
          have hf : mailsB a b = false := hno.out (by rw [h0]; rfl)
          go_wp2
          go_quiet (fail)
          go_wp2
          go_ret
          exact ⟨by rw [hf]; rfl, pw_below_drewN hB _⟩
        | true =>
          cases h1 : (x.f1.toList == y.f1.toList) with
          | false =>
            have hf : mailsB a b = false := hno.out (by rw [h0, h1]; rfl)
            go_wp2
            go_quiet (fail)
            go_wp2
            go_ret
            exact ⟨by rw [hf]; rfl, pw_below_drewN hB _⟩
          | true =>
            cases h2 : (x.f2 == y.f2) with
            | false =>
              have hf : mailsB a b = false := hno.out (by rw [h0, h1, h2]; rfl)
              go_wp2
              go_quiet (fail)
              go_wp2
              go_ret
              exact ⟨by rw [hf]; rfl, pw_below_drewN hB _⟩
            | true =>
              have ht := Aside0.mk (hyes.out (by rw [h0, h1, h2]; rfl))
              go_wp2
              go_quiet (fail)
              go_wp2
              go_roundw
              case rel => exact ⟨i + 1, by omega, by go_num, by have := ht.out; unfold eqM; exact this, pw_below_drewN hB _⟩
              case measure => simp [intOf]; omega
      · obtain rfl : i = a.length := by omega
        have hf : mailsB a b = true := mailsB_yes hl hok
        replace hf := Lib.hid hf
        go_wp2
        go_ret
        exact ⟨by rw [hf.out]; rfl, hB⟩
  · have hf : mailsB a b = false := by unfold mailsB; rw [decide_eq_false hl]; rfl
    have hl' : ¬ ((a.length : Int) = (b.length : Int)) := by omega
    have hl2 : ((a.length : Int) == (b.length : Int)) = false := beq_eq_false_iff_ne.2 hl'
    go_enter Try.func37, Try.ntmps37
    go_wp2
    go_ret
    exact ⟨by rw [hf]; rfl, Below.refl _ _⟩
set_option maxHeartbeats 2000000 in
set_option maxRecDepth 100000 in
theorem like1_calls (x : S57) (A : Option Addr) (c : Nat) (y : S57) (B : Option Addr) (d : Nat) (w : World) (hC : k54.C w A x.f1.length x.f1) (hc : x.f1.length ≤ c) (hD : k54.C w B y.f1.length y.f1) (hd : y.f1.length ≤ d) (hlim : x.f1.length ≤ 1000000) :
    Calls Try.prog 36 #[sv x A c, sv y B d] w fun e w' => e = .returned (.bool (oneB x y)) ∧ Below w.heap.size w w' := by
  obtain ⟨w1, hw1⟩ : ∃ w1, w.alloc (.cells #[.int .u64 x.f0, .slice A x.f1.length c] 57 (0, 0)) = w1 := ⟨_, rfl⟩
  have hb1 : Below w.heap.size w w1 := by rw [← hw1]; exact below_alloc (Below.refl _ _) _
  have hs1 : w1.heap.size = w.heap.size + 1 := by rw [← hw1]; simp
  have hK1 : w1.heap[w.heap.size]? = some (.cells #[.int .u64 x.f0, .slice A x.f1.length c] 57 (0, 0)) := by rw [← hw1]; exact heap_alloc_new _ _
  obtain ⟨w2, hw2⟩ : ∃ w2, w1.alloc (.cells #[.int .u64 y.f0, .slice B y.f1.length d] 57 (0, 0)) = w2 := ⟨_, rfl⟩
  have hb2 : Below w1.heap.size w1 w2 := by rw [← hw2]; exact below_alloc (Below.refl _ _) _
  have hK2 : w2.heap[w.heap.size + 1]? = some (.cells #[.int .u64 y.f0, .slice B y.f1.length d] 57 (0, 0)) := by rw [← hs1, ← hw2]; exact heap_alloc_new _ _
  have hB2 := below_step hb1 hb2
  obtain ⟨y0, y1⟩ := box2 ((hb2.block _ (blk_lt hK1)).trans hK1)
  obtain ⟨z0, z1⟩ := box2 hK2
  have heq := Aside0.mk (equal_calls A c x.f1 B d y.f1 w2 (Kd.C_below hC hB2) hc (Kd.C_below hD hB2) hd hlim)
  have hone : oneB x y = ((x.f0 == y.f0) && mailsB x.f1 y.f1) := rfl
  clear hK1 hK2 hb1 hb2 hC hD
  cases h0 : (x.f0 == y.f0) with
  | false =>
    rw [h0] at hone
    replace hone := Lib.hid hone
    go_enter Try.func36, Try.ntmps36
    go_wp2
    go_ret
    exact ⟨by rw [hone.out]; rfl, hB2⟩
  | true =>
    rw [h0] at hone
    replace hone := Lib.hid hone
    go_enter Try.func36, Try.ntmps36
    go_wp2_with fail
    refine heq.out.mono ?_; rintro e_ w3 ⟨rfl, hb3⟩
    go_wp2
    go_ret
    exact ⟨by rw [hone.out]; rfl, below_step hB2 hb3⟩
set_option maxHeartbeats 4000000 in
set_option maxRecDepth 100000 in
theorem eqfunc_calls (A0 : Option Addr) (c0 : Nat) (a : List S57) (A1 : Option Addr) (c1 : Nat) (b : List S57) (w : World) (hr0 : Kd.C k57 w A0 a.length a) (hc0 : a.length ≤ c0) (hr1 : Kd.C k57 w A1 b.length b) (hc1 : b.length ≤ c1) (hlim : a.length ≤ 1000000) (h3 : ∀ x ∈ a, x.f1.length ≤ 1000000) :
    Calls Try.prog 38 #[.slice A0 a.length c0, .slice A1 b.length c1, .func (.func 36) #[] #[]] w fun e w' => e = .returned (.bool (sameB a b)) ∧ Below w.heap.size w w' := by
  by_cases hl : a.length = b.length
  · obtain ⟨n, hn⟩ : ∃ n, a.length = n := ⟨_, rfl⟩
    have hnb : b.length = n := by omega
    rw [hn] at hr0 hc0 hlim ⊢
    rw [hnb] at hr1 hc1 ⊢
    have hsy := fun h => sameB_yes (a := a) (b := b) hl h
    replace hsy := Aside0.mk hsy
    replace hl := Lib.hid hl
    replace hn := Lib.hid hn
    replace hnb := Lib.hid hnb
    go_enter Try.func38, Try.ntmps38
    go_wp2
    go_loopw [17] (fun vi wr => ∃ i : Nat, i ≤ n ∧ vi = .int .i64 (i : Int) ∧ (∀ j : Nat, j < i → oneB (rd_T57 a (j : Int)) (rd_T57 b (j : Int)) = true) ∧ Below w.heap.size w wr) (fun vi _ => n - (intOf vi).toNat)
    case atStart => exact ⟨0, by omega, rfl, fun j h => absurd h (Nat.not_lt_zero j), Below.refl _ _⟩
    case round =>
      obtain ⟨i, hi, rfl, hok, hB⟩ := hrel
      by_cases hlt : (i : Int) < n
      · obtain ⟨ad, A4, c4, eA, q0, q1, hc4, hC4⟩ := at_T57 (Kd.C_below hr0 hB) (i : Int) (by omega) hlt
        obtain ⟨bd, B4, d4, eB, p0, p1, hd4, hD4⟩ := at_T57 (Kd.C_below hr1 hB) (i : Int) (by omega) hlt
        subst eA eB
        rw [Int.toNat_natCast] at q0 q1 p0 p1
        have hno := sameB_no (a := a) (b := b) i (by have := hn.out; omega)
        have hyes : oneB (rd_T57 a (i : Int)) (rd_T57 b (i : Int)) = true → ∀ j : Nat, j < i + 1 → oneB (rd_T57 a (j : Int)) (rd_T57 b (j : Int)) = true := fun h j hj => by
          by_cases e : j = i
          · subst e; exact h
          · exact hok j (by omega)
        have hx3 := h3 _ (rd57_mem a i (by have := hn.out; omega))
        replace hok := Aside0.mk hok
        generalize rd_T57 a (i : Int) = x at q0 q1 hno hyes hC4 hc4 hx3
        generalize rd_T57 b (i : Int) = y at p0 p1 hno hyes hD4 hd4
        replace hno := Aside0.mk hno
        replace hyes := Aside0.mk hyes
        have hadb : (bd.add (i * 2)).block < wr.heap.size := block_lt_of_cell p0
        obtain ⟨w1, hw1⟩ : ∃ w1, wr.alloc (.cells #[.int .u64 0, .slice none 0 0] 57 (0, 0)) = w1 := ⟨_, rfl⟩
        have hb1 : Below wr.heap.size wr w1 := by rw [← hw1]; exact below_alloc (Below.refl _ _) _
        have hK1 : w1.heap[wr.heap.size]? = some (.cells #[.int .u64 0, .slice none 0 0] 57 (0, 0)) := by rw [← hw1]; exact heap_alloc_new _ _
        go_wp2_with (first | ((with_reducible refine gate_store (t := 57) (p := 8) rfl ?_); go_loud (refine wpList_storeBox rfl rfl 57 (.tmp 8) (.tmp 21) rfl (sv x A4 c4) [.int .u64 x.f0, .slice A4 x.f1.length c4] rfl rfl rfl (by kernel_rfl) (by simp [Value.oneCell']) hK1 rfl ?_); intro w2 hK2 hg2 hs2; clear hs2; have hb2 := Aside0.mk (pw_below_grown hb1 _ hb1.size hg2 (fun k hk => by cases hk; exact Nat.le_refl _)); clear hw1 hb1 hK1 hg2 q0 q1; replace p0 := (Below.cell (p := (bd.add (i * 2))) hb2.out hadb).trans p0; replace p1 := (Below.cell (p := ⟨(bd.add (i * 2)).block, (bd.add (i * 2)).off + 1, none⟩) hb2.out hadb).trans p1; obtain ⟨w3, hw3⟩ : ∃ w3, w2.alloc (.cells #[.int .u64 0, .slice none 0 0] 57 (0, 0)) = w3 := ⟨_, rfl⟩; have hb3 : Below w2.heap.size w2 w3 := (by rw [← hw3]; exact below_alloc (Below.refl _ _) _); have hK3 : w3.heap[w2.heap.size]? = some (.cells #[.int .u64 0, .slice none 0 0] 57 (0, 0)) := (by rw [← hw3]; exact heap_alloc_new _ _)) | ((with_reducible refine gate_store (t := 57) (p := 9) rfl ?_); go_loud (refine wpList_storeBox rfl rfl 57 (.tmp 9) (.tmp 25) rfl (sv y B4 d4) [.int .u64 y.f0, .slice B4 y.f1.length d4] rfl rfl rfl (by kernel_rfl) (by simp [Value.oneCell']) hK3 rfl ?_); intro w4 hK4 hg4 hs4; clear hs4; have hb4 := Aside0.mk (pw_below_grown hb3 _ hb3.size hg4 (fun k hk => by cases hk; exact Nat.le_refl _)); clear hw3 hb3 hK3 hg4 p0 p1; obtain ⟨y0, y1⟩ := box2 ((hb4.out.block _ (blk_lt hK2)).trans hK2); obtain ⟨z0, z1⟩ := box2 hK4))
        have hB4 := Aside0.mk (below_step hb2.out hb4.out)
        have hlk := Aside0.mk (like1_calls x A4 c4 y B4 d4 w4 (Kd.C_below hC4 hB4.out) hc4 (Kd.C_below hD4 hB4.out) hd4 hx3)
        clear y0 y1 z0 z1 hK2 hK4
        refine hlk.out.mono ?_; rintro e_ w5 ⟨rfl, hb5⟩
        have hB5 := Aside0.mk (below_step hB (below_step hB4.out hb5))
        clear hlk hb5 hB hB4 hb2 hb4
        cases ho : oneB x y with
        | false =>
          have hf := Lib.hid (hno.out ho)
          go_wp2
          go_ret
          exact ⟨by rw [hf.out]; rfl, hB5.out⟩
        | true =>
          have ht := Aside0.mk (hyes.out ho)
          go_wp2
          go_roundw
          case rel => exact ⟨i + 1, by omega, by go_num, ht.out, hB5.out⟩
          case measure => simp [intOf]; omega
      · obtain rfl : i = n := by omega
        have hf := Lib.hid (hsy.out (fun j hj => hok j (by have := hn.out; omega)))
        go_wp2
        go_ret
        exact ⟨by rw [hf.out]; rfl, hB⟩
  · have hf : sameB a b = false := by unfold sameB; rw [decide_eq_false hl]; rfl
    have hl' : ¬ ((a.length : Int) = (b.length : Int)) := by omega
    have hl2 : ((a.length : Int) == (b.length : Int)) = false := beq_eq_false_iff_ne.2 hl'
    replace hf := Lib.hid hf
    go_enter Try.func38, Try.ntmps38
    go_wp2
    go_ret
    exact ⟨by rw [hf.out]; rfl, Below.refl _ _⟩
def likeB (a b : List S57) (n0 x0 n1 x1 : Int) : Bool := sameB a b && ((n0 == n1) && (x0 == x1))
theorem like_calls (A0 : Option Addr) (c0 : Nat) (a : List S57) (n0 x0 : Int) (A1 : Option Addr) (c1 : Nat) (b : List S57) (n1 x1 : Int) (w : World) (hr0 : Kd.C k57 w A0 a.length a) (hc0 : a.length ≤ c0) (hr1 : Kd.C k57 w A1 b.length b) (hc1 : b.length ≤ c1) (hlim : a.length ≤ 1000000) (h3 : ∀ x ∈ a, x.f1.length ≤ 1000000) :
    Calls Try.prog 12 #[rv A0 a.length c0 n0 x0, rv A1 b.length c1 n1 x1] w fun e w' => e = .returned (.bool (likeB a b n0 x0 n1 x1)) ∧ Below w.heap.size w w' := by
  obtain ⟨w1, hw1⟩ : ∃ w1, w.alloc (.cells #[.slice A0 a.length c0, .int .u64 n0, .int .u64 x0] 25 (0, 0)) = w1 := ⟨_, rfl⟩
  have hb1 : Below w.heap.size w w1 := by rw [← hw1]; exact below_alloc (Below.refl _ _) _
  have hs1 : w1.heap.size = w.heap.size + 1 := by rw [← hw1]; simp
  have hK1 : w1.heap[w.heap.size]? = some (.cells #[.slice A0 a.length c0, .int .u64 n0, .int .u64 x0] 25 (0, 0)) := by rw [← hw1]; exact heap_alloc_new _ _
  obtain ⟨w2, hw2⟩ : ∃ w2, w1.alloc (.cells #[.slice A1 b.length c1, .int .u64 n1, .int .u64 x1] 25 (0, 0)) = w2 := ⟨_, rfl⟩
  have hb2 : Below w1.heap.size w1 w2 := by rw [← hw2]; exact below_alloc (Below.refl _ _) _
  have hK2 : w2.heap[w.heap.size + 1]? = some (.cells #[.slice A1 b.length c1, .int .u64 n1, .int .u64 x1] 25 (0, 0)) := by rw [← hs1, ← hw2]; exact heap_alloc_new _ _
  have hB2 := below_step hb1 hb2
  replace hK1 := (hb2.block _ (blk_lt hK1)).trans hK1
  obtain ⟨y0, y1, y2⟩ := box3 hK1
  obtain ⟨z0, z1, z2⟩ := box3 hK2
  have he := Aside0.mk (eqfunc_calls A0 c0 a A1 c1 b w2 (Kd.C_below hr0 hB2) hc0 (Kd.C_below hr1 hB2) hc1 hlim h3)
  have hlk : likeB a b n0 x0 n1 x1 = (sameB a b && ((n0 == n1) && (x0 == x1))) := rfl
  replace hlk := Lib.hid hlk
  go_enter Try.func12, Try.ntmps12
  go_wp2_with fail
  refine he.out.mono ?_; rintro e_ w5 ⟨rfl, hb5⟩
  clear y0 y1 y2 z0 z1 z2
  obtain ⟨y0, y1, y2⟩ := box3 ((hb5.block _ (blk_lt hK1)).trans hK1)
  obtain ⟨z0, z1, z2⟩ := box3 ((hb5.block _ (blk_lt hK2)).trans hK2)
  cases hs : sameB a b with
  | false =>
    go_wp2
    go_ret
    exact ⟨by rw [hlk.out, hs]; rfl, below_step hB2 hb5⟩
  | true =>
    cases h1 : (n0 == n1) with
    | false =>
      go_wp2
      go_ret
      exact ⟨by rw [hlk.out, hs, h1]; rfl, below_step hB2 hb5⟩
    | true =>
      go_wp2
      go_ret
      exact ⟨by rw [hlk.out, hs, h1]; rfl, below_step hB2 hb5⟩
end Go.Proofs.Ytbmfcikjhnnnbaa.Q
