/- slices.Clip at terms, term.Add: the list that has a term, and its place; or why there is none.
   Conditions: the list is read as terms whose numbers are of 64 bits. -/
import Derived.Test.YtenmmeehgnkcpaaHStep
import Derived.Test.YtenmmeehgnkcpaaHRight
namespace Go.Proofs.Ytenmmeehgnkcpaa.Q
open Go.RowKit Go.Proofs.YtenmmeehgnkcpaaW.PrintWords Go.Proofs.YtenmmeehgnkcpaaW.PrintLast Go.Proofs.YtenmmeehgnkcpaaW.PrintMore
set_option linter.unusedVariables false
set_option linter.unusedSimpArgs false

/-- append(slices.Clip(s), x): the row is new. -/
theorem run_append_clip {P : Program} {α : Type} (d : Kd α) {Rr : α → List Value → Prop} {W : World} (t ty e : TypeId) (z : Value) (bytes : Nat)
    (ht : P.underlying t = some (.slice e)) (hinfo : (P.info? e).map (fun i => (i.zero, i.size, i.bytes)) = some (some z, d.sz, bytes)) (hz : z.cells.size = d.sz) (hs0 : 0 < d.sz) (hb0 : 0 < bytes)
    (A : Option Addr) (xs ys : List α) (ad : Addr) (c : Nat) (HX : ReadsRow Rr d.sz W A xs.length xs) (HY : ReadsRow Rr d.sz W (some ad) ys.length ys) (hy : 0 < ys.length)
    (hKM : ∀ w1 base ok x cs, Rr x cs → d.M w1 base ok x cs) (hl : (xs.length + ys.length) * bytes ≤ 140737488355328) :
    ∃ v1 w1, (Builtin.append_ #[t, t] ty #[.slice A xs.length xs.length, .slice (some ad) ys.length c]).run P W = .ok v1 w1 ∧ d.R e w1 W.heap.size (fun _ => True) v1 (xs ++ ys) ∧ Below W.heap.size W w1 := by
  obtain ⟨i0, hi, hzz⟩ := Option.map_eq_some_iff.1 hinfo
  simp only [Prod.mk.injEq] at hzz
  obtain ⟨hz0, hz1, hz2⟩ := hzz
  have hlen : xs.length + ys.length ≤ 140737488355328 := Nat.le_trans (Nat.le_mul_of_pos_right _ hb0) hl
  obtain ⟨news, hnr, hnc⟩ := ReadsRow.inner_ HY
  have holds : ∃ olds, Reps Rr d.sz xs olds ∧ ∀ b, A = some b → ∀ j v, olds[j]? = some v → W.cell? (b.add j) = some v := by
    rcases A with _ | b
    · have h0 : xs = [] := by
        rcases Nat.eq_zero_or_pos xs.length with h | h
        · exact List.eq_nil_of_length_eq_zero h
        · obtain ⟨ad, h', _⟩ := HX.2.2 h
          cases h'
      subst h0
      exact ⟨[], Reps.none _ _, fun b h => by cases h⟩
    · obtain ⟨olds, h1, h2⟩ := ReadsRow.inner_ HX
      exact ⟨olds, h1, fun b' h => by cases h; exact h2⟩
  obtain ⟨olds, hor, hoc⟩ := holds
  have hres : ∀ (old : Nat), d.R e (W.drew.alloc (.cells (olds.toArray ++ news.toArray ++ Builtin.zeroCells z.cells (grownCap W (xs.length + ys.length) old e - (xs.length + ys.length))) e)) W.heap.size (fun _ => True) (.slice (some ⟨W.heap.size, 0, none⟩) (xs.length + ys.length) (grownCap W (xs.length + ys.length) old e)) (xs ++ ys) := by
    intro old
    have hge := grownCap_ge W (xs.length + ys.length) old e
    have hcm : grownCap W (xs.length + ys.length) old e ≤ maxLen := grownCap_le_maxLen W (xs.length + ys.length) old e (by simp only [maxLen]; omega)
    have hlen2 : (olds ++ news).length = (xs.length + ys.length) * d.sz := by rw [List.length_append, hor.1, hnr.1, Nat.add_mul]
    refine ⟨fun _ _ => trivial, olds ++ news, ⟨by rw [hlen2, List.length_append], .inr ⟨W.heap.size, _, _, by rw [List.length_append], Nat.le_refl _, heap_alloc_new W.drew _, by rw [List.length_append]; exact hge, hcm, ?_, ?_⟩⟩, ?_⟩
    · simp only [Array.size_append, List.size_toArray, size_zeroCells, hz, hor.1, hnr.1, ← Nat.add_mul]
      congr 1
      omega
    · simp only [Array.toList_append, List.append_assoc]
      rw [List.length_append, ← List.append_assoc, ← hlen2]
      exact List.take_left
    · exact (Kd.reps_append hor hnr).imp_ (fun p q hp => hKM _ _ _ p q hp)
  have hbel : ∀ o, Below W.heap.size W (W.drew.alloc o) := fun o => below_alloc (below_drew (Below.refl _ _)) _
  rcases A with _ | b
  · have h0 : xs = [] := by
      rcases Nat.eq_zero_or_pos xs.length with h | h
      · exact List.eq_nil_of_length_eq_zero h
      · obtain ⟨ad, h', _⟩ := HX.2.2 h
        cases h'
    subst h0
    obtain rfl : olds = [] := List.eq_nil_of_length_eq_zero (by simpa using hor.1)
    have hr := run_append_nil (P := P) W t ty e i0 z ht hi hz0 ad ys.length c news (by rw [hnr.1, hz1]) hnc hy (by omega) (by rw [hz2]; have hb := hl; simp only [List.length_nil, Nat.zero_add] at hb; omega)
    have h2 := hres 0
    simp only [List.length_nil, Nat.zero_add, List.nil_append, Array.empty_append] at h2
    refine ⟨_, _, hr, ?_, hbel _⟩
    simpa using h2
  · have hr := run_append_grow (P := P) W t ty e i0 z ht hi hz0 b xs.length xs.length olds (by rw [hor.1, hz1]) (hoc b rfl) ad ys.length c news (by rw [hnr.1, hz1]) hnc (by omega) (by omega) (by rw [hz2]; exact growslice_fits (by omega) hl)
    exact ⟨_, _, hr, hres xs.length, hbel _⟩
section
variable {P : Program} {ops : Array Oper} {o : Oper} {a : Act} {Q : Exit → Act → World → Prop} {K : Act → World → Prop}
theorem clip_step {W w1 : World} {v1 : Value} (hw : Region.wanted o (yielded ops a.tmps) = true) (s x : Operand) {t : TypeId} {vs vx : Value}
    (ho : o.op = .call { callee := .builtin .append, args := #[s, x], argTypes := #[t, t] }) (hs : a.eval s = vs) (hx : a.eval x = vx) (hr : (Builtin.append_ #[t, t] o.type #[vs, vx]).run P W = .ok v1 w1) (h : K (a.put o.dst v1) w1) :
    if Region.wanted o (yielded ops a.tmps) = true then Oper.wp P o a W K Q else K (a.put o.dst undef) W := by
  rw [if_pos hw]
  unfold Oper.wp execOp
  simp only [ho, resolve, invoke, builtin, Sem.run_bind, Sem.run_pure, Result.andThen_ok, List.map_toArray, List.map_cons, List.map_nil, hs, hx, hr]
  exact h
end
theorem clipT_calls (A0 : Option Addr) (c0 : Nat) (l0 : List S28) (w : World) (hc0 : l0.length ≤ c0) :
    Calls Try.prog 46 #[.slice A0 l0.length c0] w fun e w' => e = .returned (.slice A0 l0.length l0.length) ∧ w' = w := by
  go_enter Try.func46, Try.ntmps46
  go_wp2
  go_ret
  exact ⟨rfl, rfl⟩
def turnT (t : S28) : S28 := if t.f0 = 2 ∧ t.f3 < t.f2 then { f0 := t.f0, f1 := t.f1, f2 := t.f3, f3 := t.f2 } else t
def idxN (l : List S28) (t : S28) : Nat := l.findIdx fun x => eqT t x
def idxT (l : List S28) (t : S28) : Int := if idxN l t < l.length then (idxN l t : Int) else -1
def addR (l : List S28) (t : S28) : List S28 × Int × Int :=
  if rightB l = true then (if madeB l.length (turnT t) = true then (if 0 ≤ idxT l (turnT t) then (l, idxT l (turnT t), 0) else if l.length = 400 then ([], 0, 6) else (l ++ [turnT t], (l.length : Int), 0)) else ([], 0, 1)) else ([], 0, 1)
/-- The row lies in a block of terms of its own. -/
def Row28 (W : World) (B : Option Addr) : Prop := ∀ ad, B = some ad → ∃ cur, W.heap[ad.block]? = some (.cells cur 28 (0, 0))
theorem row28_none (W : World) : Row28 W none := fun _ h => by cases h
theorem row28_of_R {W : World} {base n c : Nat} {A : Option Addr} {ok : Nat → Prop} {xs : List S28} (h : Kd.R k28 28 W base ok (.slice A n c) xs) : Row28 W A := by
  obtain ⟨_, cells, ⟨_, ⟨hv, _⟩ | ⟨g, cap, cur, hv, _, hg, _⟩⟩, _⟩ := h
  · injection hv with h1 h2 h3
    exact fun ad e => by rw [h1] at e; cases e
  · injection hv with h1 h2 h3
    exact fun ad e => by rw [h1] at e; cases e; exact ⟨cur, hg⟩
def AddE (A : Option Addr) (l : List S28) (t : S28) (e : Ending) (w' : World) : Prop := ∃ (B : Option Addr) (d : Nat) (m : List S28) (i q : Int), addR l t = (m, i, q) ∧ e = .returned (.tuple #[.slice B m.length d, .int .i64 i, .int .i64 q]) ∧ m.length ≤ d ∧ k28.C w' B m.length m ∧ (B = A ∨ Row28 w' B)
theorem one_C28 {W : World} {m : S28} {g : Nat} (hv : W.heap[g]? = some (.cells #[.int .i64 m.f0, .int .u64 m.f1, .int .i64 m.f2, .int .i64 m.f3] 28 (0, 0))) : k28.C W (some ⟨g, 0, none⟩) 1 [m] := by
  refine ⟨rfl, by omega, fun _ => ⟨_, rfl, fun j p hj => ?_⟩⟩
  obtain ⟨rfl, rfl⟩ : j = 0 ∧ p = m := by
    rcases j with _ | j
    · exact ⟨rfl, by simpa using hj.symm⟩
    · simp at hj
  refine ⟨_, rfl, k28_mk _ _, fun i u hu => ?_⟩
  rw [Addr.add_lit, show 0 + (0 * k28.sz + i) = i by omega, blk_cell hv]
  simpa using hu
theorem nx (i : Nat) (h : i ≤ 1000000) : wrap64 ((i : Int) + 1) = ((i + 1 : Nat) : Int) := (wrap_in' _ (by omega) (by omega)).trans (by omega)
theorem drop_rd28 (l : List S28) (i : Nat) (h : i < l.length) : l.drop i = rd_T28 l (i : Int) :: l.drop (i + 1) := by rw [rd28_nat l i h]; exact List.drop_eq_getElem_cons h
theorem index_l0 (l : List S28) (hl : l.length ≤ 1000000) (t : S28) : ∀ (m k i : Nat), i + m = l.length → m < k →
    api_Term_25.l0 k l (l.length : Int) (i : Int) t.f0 t.f1 t.f2 t.f3 = some (if (l.drop i).findIdx (fun x => eqT t x) < (l.drop i).length then ((i + (l.drop i).findIdx (fun x => eqT t x) : Nat) : Int) else -1) := by
  intro m
  induction m with
  | zero =>
    intro k i hi hk
    obtain ⟨k, rfl⟩ : ∃ k', k = k' + 1 := ⟨k - 1, by omega⟩
    rw [api_Term_25.l0, if_neg (by omega), List.drop_eq_nil_of_le (by omega)]
    rfl
  | succ m ih =>
    intro k i hi hk
    obtain ⟨k, rfl⟩ : ∃ k', k = k' + 1 := ⟨k - 1, by omega⟩
    rw [api_Term_25.l0, if_pos (by omega), if_pos (by omega), if_pos (by omega), nx i (by omega), drop_rd28 l i (by omega), List.findIdx_cons, ih k (i + 1) (by omega) (by omega)]
    have hd : ((t.f0 == (rd_T28 l (i : Int)).f0) && ((t.f1 == (rd_T28 l (i : Int)).f1) && ((t.f2 == (rd_T28 l (i : Int)).f2) && (t.f3 == (rd_T28 l (i : Int)).f3)))) = eqT t (rd_T28 l (i : Int)) := rfl
    rw [hd]
    cases e : eqT t (rd_T28 l (i : Int)) with
    | true => simp
    | false =>
      rw [if_neg (by decide), List.length_cons]
      simp only [cond_false]
      by_cases h : (l.drop (i + 1)).findIdx (fun x => eqT t x) < (l.drop (i + 1)).length
      · rw [if_pos h, if_pos (by omega)]
        congr 1
        omega
      · rw [if_neg h, if_neg (by omega)]
theorem index_f (l : List S28) (hl : l.length ≤ 1000000) (t : S28) (k : Nat) (hk : l.length < k) : api_Term_25.f k l t.f0 t.f1 t.f2 t.f3 = some (idxT l t) := by
  unfold api_Term_25.f idxT idxN
  rw [show (0 : Int) = ((0 : Nat) : Int) from rfl, index_l0 l hl t l.length k 0 (by omega) hk]
  simp
theorem index_calls (A : Option Addr) (c : Nat) (l : List S28) (t : S28) (w : World) (hC : k28.C w A l.length l) (hc : l.length ≤ c) (hlen : l.length ≤ 1000000) :
    Calls Try.prog 25 #[.slice A l.length c, tv t] w fun e w' => e = .returned (.int .i64 (idxT l t)) ∧ Below w.heap.size w w' := api_Term_25.calls 1000001 A c l t.f0 t.f1 t.f2 t.f3 _ w hC hc (index_f l hlen t 1000001 (by omega))
set_option maxHeartbeats 4000000 in
set_option maxRecDepth 100000 in
theorem add_calls (A : Option Addr) (c : Nat) (l : List S28) (t : S28) (w : World) (hC : k28.C w A l.length l) (hc : l.length ≤ c) (hlen : l.length ≤ 1000000) (hwf : ∀ t ∈ l, wfT t) :
    Calls Try.prog 14 #[.slice A l.length c, tv t] w fun e w' => AddE A l t e w' ∧ Below w.heap.size w w' := by
  obtain ⟨w1, hw1⟩ : ∃ w1, w.alloc (.cells #[.int .i64 t.f0, .int .u64 t.f1, .int .i64 t.f2, .int .i64 t.f3] 28 (0, 0)) = w1 := ⟨_, rfl⟩
  have hb1 : Below w.heap.size w w1 := by rw [← hw1]; exact below_alloc (Below.refl _ _) _
  have hK1 : w1.heap[w.heap.size]? = some (.cells #[.int .i64 t.f0, .int .u64 t.f1, .int .i64 t.f2, .int .i64 t.f3] 28 (0, 0)) := by rw [← hw1]; exact heap_alloc_new _ _
  have hrc := Aside0.mk (right_calls A c l w1 (Kd.C_below hC hb1) hc hlen hwf)
  replace hC := Aside0.mk hC
  go_enter Try.func14, Try.ntmps14
  go_wp2_with fail
  refine hrc.out.mono ?_; rintro e_ w2 ⟨rfl, hb2⟩
  have hK2 := (hb2.block _ (blk_lt hK1)).trans hK1
  have hB2 := Aside0.mk (below_step hb1 hb2)
  clear hrc hb1 hb2 hK1 hw1
  cases hR : rightB l with
  | false =>
    have hfin : ∀ W, Hid (AddE A l t (.returned (.tuple #[.slice none 0 0, .int .i64 0, .int .i64 1])) W) := fun W => Lib.hid ⟨none, 0, [], 0, 1, by unfold addR; rw [hR, if_neg (by decide)], rfl, Nat.le_refl _, Kd.C_nil _ _, .inr (row28_none _)⟩
    go_wp2
    go_ret3
    exact ⟨(hfin _).out, hB2.out⟩
  | true =>
    obtain ⟨z0, z1, z2, z3⟩ := box4 hK2
    by_cases h2 : t.f0 = 2
    · have f2 : (t.f0 == 2) = true := beq_iff_eq.2 h2
      replace h2 := Lib.hid h2
      by_cases hlt : t.f3 < t.f2
      · have f3 : decide (t.f3 < t.f2) = true := decide_eq_true hlt
        obtain ⟨x, hx⟩ : ∃ x, turnT t = x := ⟨_, rfl⟩
        have hx0 : x = { f0 := t.f0, f1 := t.f1, f2 := t.f3, f3 := t.f2 } := by rw [← hx]; unfold turnT; rw [if_pos ⟨h2.out, hlt⟩]
        go_wp2_with (first | ((with_reducible refine gate_store (t := 3) (p := 25) rfl ?_); go_loud (refine wpList_storeField rfl rfl 3 (.tmp 25) (.tmp 22) rfl 2 (.int .i64 t.f3) #[.int .i64 t.f0, .int .u64 t.f1, .int .i64 t.f3, .int .i64 t.f3] rfl rfl rfl (by kernel_rfl) rfl hK2 (Nat.le_of_ble_eq_true rfl) rfl ?_; intro wa hKa hga hsa; clear z0 z1 z2 z3; obtain ⟨z0, z1, z2, z3⟩ := box4 hKa)) | ((with_reducible refine gate_store (t := 3) (p := 26) rfl ?_); go_loud (refine wpList_storeField rfl rfl 3 (.tmp 26) (.tmp 24) rfl 3 (.int .i64 t.f2) #[.int .i64 t.f0, .int .u64 t.f1, .int .i64 t.f3, .int .i64 t.f2] rfl rfl rfl (by kernel_rfl) rfl hKa (Nat.le_of_ble_eq_true rfl) rfl ?_; intro w3 hK3 hg3 hs3; clear z0 z1 z2 z3; have hB3 := Aside0.mk ((hB2.out.grown hga hB2.out.size (fun k hk => by cases hk; exact Nat.le_refl _)).grown hg3 (hB2.out.grown hga hB2.out.size (fun k hk => by cases hk; exact Nat.le_refl _)).size (fun k hk => by cases hk; exact Nat.le_refl _)); clear hga hg3 hsa hs3 hK2 hKa; have hK3' : w3.heap[w.heap.size]? = some (.cells #[.int .i64 x.f0, .int .u64 x.f1, .int .i64 x.f2, .int .i64 x.f3] 28 (0, 0)) := (by rw [hx0]; exact hK3); clear hK3 hx0; have hK3 := hK3'; clear hK3'; obtain ⟨y0, y1, y2, y3⟩ := box4 hK3; have hC3 := Aside0.mk (Kd.C_below hC.out hB3.out); have hix := index_calls A c l x w3 hC3.out hc hlen; obtain ⟨ix, hixe⟩ : ∃ n, idxT l x = n := ⟨_, rfl⟩; rw [hixe] at hix; replace hixe := Lib.hid hixe; replace hix := Aside0.mk hix)))
        refine hix.out.mono ?_; rintro e_ w4 ⟨rfl, hb4⟩
        have hK4 := (hb4.block _ (blk_lt hK3)).trans hK3
        have hB4 := Aside0.mk (below_step hB3.out hb4)
        clear hix hb4 hK3 y0 y1 y2 y3
        obtain ⟨y0, y1, y2, y3⟩ := box4 hK4
        go_wp2_with fail
        refine (made_calls (l.length : Int) x _).mono ?_; rintro e_ w7 ⟨rfl, hb7⟩
        have hK7 := (hb7.block _ (blk_lt hK4)).trans hK4
        have hB7 := Aside0.mk (below_step hB4.out hb7)
        have hC7 := Aside0.mk (Kd.C_below hC.out hB7.out)
        clear hb7 hK4 y0 y1 y2 y3
        have HX : turnT t = x := hx
        have hadd : addR l t = if madeB l.length x = true then (if 0 ≤ ix then (l, ix, 0) else if l.length = 400 then ([], 0, 6) else (l ++ [x], (l.length : Int), 0)) else ([], 0, 1) := by unfold addR; rw [if_pos hR, (show turnT _ = x from HX), hixe.out]
        cases hmd : madeB (l.length : Int) x with
        | false =>
          have hfin : ∀ W, Hid (AddE A l t (.returned (.tuple #[.slice none 0 0, .int .i64 0, .int .i64 1])) W) := fun W => Lib.hid ⟨none, 0, [], 0, 1, by rw [hadd, hmd, if_neg (by decide)], rfl, Nat.le_refl _, Kd.C_nil _ _, .inr (row28_none _)⟩
          clear hadd hK7 HX
          go_wp2
          go_ret3
          exact ⟨(hfin _).out, hB7.out⟩
        | true =>
          rw [hmd, if_pos rfl] at hadd
          by_cases hi0 : 0 ≤ ix
          · have hfin : Hid (AddE A l t (.returned (.tuple #[.slice A l.length c, .int .i64 ix, .int .i64 0])) w7) := Lib.hid ⟨A, c, l, ix, 0, by rw [hadd, if_pos hi0], rfl, hc, hC7.out, .inl rfl⟩
            have e1 : decide (0 ≤ ix) = true := decide_eq_true hi0
            clear hadd hK7
            go_wp2
            go_ret3
            exact ⟨hfin.out, hB7.out⟩
          · have e1 : decide (0 ≤ ix) = false := decide_eq_false hi0
            rw [if_neg hi0] at hadd
            by_cases hfull : l.length = 400
            · have hfin : ∀ W, Hid (AddE A l t (.returned (.tuple #[.slice none 0 0, .int .i64 0, .int .i64 6])) W) := fun W => Lib.hid ⟨none, 0, [], 0, 6, by rw [hadd, if_pos hfull], rfl, Nat.le_refl _, Kd.C_nil _ _, .inr (row28_none _)⟩
              have e2 : ((l.length : Int) == 400) = true := beq_iff_eq.2 (by omega)
              have e3 : (l.length : Int) = 400 := by omega
              clear hadd hK7
              go_wp2
              go_ret3
              exact ⟨(hfin _).out, hB7.out⟩
            · have e2 : ((l.length : Int) == 400) = false := beq_eq_false_iff_ne.2 (by omega)
              have e3 : ¬ (l.length : Int) = 400 := by omega
              have hl400 : l.length ≤ 400 := of_decide_eq_true (Bool.and_eq_true_iff.1 hR).2
              have hq : Hid (∀ W, Below w7.heap.size w7 W → W.cell? ⟨w.heap.size, 0, none⟩ = some (.int .i64 x.f0) ∧ W.cell? ⟨w.heap.size, 1, none⟩ = some (.int .u64 x.f1) ∧ W.cell? ⟨w.heap.size, 2, none⟩ = some (.int .i64 x.f2) ∧ W.cell? ⟨w.heap.size, 3, none⟩ = some (.int .i64 x.f3)) := Lib.hid fun W hW => box4 ((hW.block _ (blk_lt hK7)).trans hK7)
              have hclip := Lib.hid (fun W => clipT_calls A c l W hc)
              have happ : Hid (∀ (g : Nat) {W : World}, Below w7.heap.size w7 W → W.heap[g]? = some (.cells #[.int .i64 x.f0, .int .u64 x.f1, .int .i64 x.f2, .int .i64 x.f3] 28 (0, 0)) → ∃ A1 c1 w1, (Builtin.append_ #[23, 23] 23 #[.slice A l.length l.length, .slice (some ⟨g, 0, none⟩) 1 1]).run Try.prog W = .ok (.slice A1 (l.length + 1) c1) w1 ∧ Kd.R k28 28 w1 W.heap.size (fun _ => True) (.slice A1 (l.length + 1) c1) (l ++ [x]) ∧ Below W.heap.size W w1) := Lib.hid fun g W hW hg => by
                have := run_append_clip k28 (W := W) 23 23 28 (.agg #[(.int .i64 0), (.int .u64 0), (.int .i64 0), (.int .i64 0)]) 32 Try.underlying23 info28 rfl (by decide) (by omega) A l [x] ⟨g, 0, none⟩ 1 (Kd.C_below hC7.out hW) (one_C28 (m := x) hg) (by simp) (fun w1 base ok y cs h => by obtain rfl := k28_open h; exact k28_mkM _ _ _ _) (by simp only [List.length_singleton]; omega)
                obtain ⟨v1, w1, h1, h2, h3⟩ := this
                obtain ⟨A1, c1, rfl, -, -⟩ := Kd.R_reads h2
                rw [List.length_append, List.length_singleton] at h1 h2
                exact ⟨A1, c1, w1, h1, h2, h3⟩
              replace hadd := Lib.hid (hadd.trans (if_neg hfull))
              clear hK7
              go_wp2
              refine start_ (n := 10) (S := fun w' => w'.cell? ⟨w.heap.size, 0, none⟩ = some (.int .i64 x.f0) ∧ w'.cell? ⟨w.heap.size, 1, none⟩ = some (.int .u64 x.f1) ∧ w'.cell? ⟨w.heap.size, 2, none⟩ = some (.int .i64 x.f2) ∧ w'.cell? ⟨w.heap.size, 3, none⟩ = some (.int .i64 x.f3)) (ds := []) #[false, false, false, false, false, false, false, false, false, false] (by kernel_rfl) rfl rfl ⟨(hq.out _ (Below.refl w7.heap.size w7).drew).1, (hq.out _ (Below.refl w7.heap.size w7).drew).2.1, (hq.out _ (Below.refl w7.heap.size w7).drew).2.2.1, (hq.out _ (Below.refl w7.heap.size w7).drew).2.2.2⟩ (fun hHeld => ?_)
              refine p_ 0 (some 45) #[true, false, false, false, false, false, false, false, false, false] ?_
              refine p_ 5 (some 50) #[true, false, false, false, false, true, false, false, false, false] ?_
              refine p_ 6 (some 51) #[true, false, false, false, false, true, true, false, false, false] ?_
              refine t_ 2 (some 47) #[true, false, true, false, false, true, true, false, false, false] hHeld (hv := by rintro w' ⟨s0, s1, s2, s3⟩; go_simp; with_reducible rfl) (h := ?_)
              refine join_ (σ := Unit) 4 #[true, true, true, true, false, true, true, false, false, false] (fun s_ => [(46, .slice A l.length l.length), (48, .slice (some ⟨w7.heap.size, 0, none⟩) 1 1)]) (fun s_ w' => (w'.cell? ⟨w.heap.size, 0, none⟩ = some (.int .i64 x.f0) ∧ w'.cell? ⟨w.heap.size, 1, none⟩ = some (.int .u64 x.f1) ∧ w'.cell? ⟨w.heap.size, 2, none⟩ = some (.int .i64 x.f2) ∧ w'.cell? ⟨w.heap.size, 3, none⟩ = some (.int .i64 x.f3)) ∧ w'.heap[w7.heap.size]? = some (.cells #[.int .i64 x.f0, .int .u64 x.f1, .int .i64 x.f2, .int .i64 x.f3] 28 (0, 0)) ∧ Below w7.heap.size w7 w') ?_ ?_
              rotate_left
              · intro hCont
                refine two_ (i := 1) (j := 3) (Ni := some 46) (Nj := some 48) #[true, true, true, false, false, true, true, false, false, false] #[true, false, true, true, false, true, true, false, false, false] rfl rfl rfl rfl (by kernel_rfl) (by decide) (by decide) (fun K hK => ?_) (fun K hK => ?_)
                · skip
                  refine goes_ Try.func46 (by kernel_rfl) rfl #[.slice A l.length c] (by rfl) rfl rfl (by simp only [List.map_toArray, List.map_cons, List.map_nil]; rfl) ?_
                  with_reducible refine (hclip.out _).mono ?_
                  rintro e wq ⟨rfl, rfl⟩
                  refine ⟨_, rfl, ?_⟩
                  have hbc := (Below.refl w7.heap.size w7).drew
                  refine hK.out _ _ ⟨(hq.out _ hbc).1, (hq.out _ hbc).2.1, (hq.out _ hbc).2.2.1, (hq.out _ hbc).2.2.2⟩ (fun hHeld => ?_)
                  clear hK K
                  refine norm_ (a' := ?_) ?_ ?_
                  rotate_left
                  · show Act.put _ (some 46) _ = _
                    simp only [Act.put, List.setIfInBounds_toArray, List.set_cons_zero, List.set_cons_succ, i64_w, i32_w]
                    rfl
                  refine one_ (i := 3) (N := some 48) #[true, true, true, true, false, true, true, false, false, false] rfl rfl (by kernel_rfl) (by decide) (fun K hK => ?_)
                  refine value_ (w1 := ?_) (v := ?_) (by rfl) rfl ?_ ?_
                  rotate_left 2
                  · go_simp
                    constructor
                    · rfl
                    · rfl
                  have hlit := heap_alloc_new w7.drew (.cells #[.int .i64 x.f0, .int .u64 x.f1, .int .i64 x.f2, .int .i64 x.f3] 28 (0, 0))
                  have hbc := below_alloc hbc (.cells #[.int .i64 x.f0, .int .u64 x.f1, .int .i64 x.f2, .int .i64 x.f3] 28 (0, 0))
                  refine hK.out _ _ ⟨(hq.out _ hbc).1, (hq.out _ hbc).2.1, (hq.out _ hbc).2.2.1, (hq.out _ hbc).2.2.2⟩ (fun hHeld => ?_)
                  clear hK K
                  refine norm_ (a' := ?_) ?_ ?_
                  rotate_left
                  · show Act.put _ (some 48) _ = _
                    simp only [Act.put, List.setIfInBounds_toArray, List.set_cons_zero, List.set_cons_succ, i64_w, i32_w]
                    rfl
                  exact norm_ (by simp only [putAll, Act.put, List.setIfInBounds_toArray, List.set_cons_zero, List.set_cons_succ]) (hCont () _ ⟨⟨(hq.out _ hbc).1, (hq.out _ hbc).2.1, (hq.out _ hbc).2.2.1, (hq.out _ hbc).2.2.2⟩, hlit, hbc⟩)
                · skip
                  refine value_ (w1 := ?_) (v := ?_) (by rfl) rfl ?_ ?_
                  rotate_left 2
                  · go_simp
                    constructor
                    · rfl
                    · rfl
                  have hbc := (Below.refl w7.heap.size w7).drew
                  have hlit := heap_alloc_new w7.drew (.cells #[.int .i64 x.f0, .int .u64 x.f1, .int .i64 x.f2, .int .i64 x.f3] 28 (0, 0))
                  have hbc := below_alloc hbc (.cells #[.int .i64 x.f0, .int .u64 x.f1, .int .i64 x.f2, .int .i64 x.f3] 28 (0, 0))
                  refine hK.out _ _ ⟨(hq.out _ hbc).1, (hq.out _ hbc).2.1, (hq.out _ hbc).2.2.1, (hq.out _ hbc).2.2.2⟩ (fun hHeld => ?_)
                  clear hK K
                  refine norm_ (a' := ?_) ?_ ?_
                  rotate_left
                  · show Act.put _ (some 48) _ = _
                    simp only [Act.put, List.setIfInBounds_toArray, List.set_cons_zero, List.set_cons_succ, i64_w, i32_w]
                    rfl
                  refine one_ (i := 1) (N := some 46) #[true, true, true, true, false, true, true, false, false, false] rfl rfl (by kernel_rfl) (by decide) (fun K hK => ?_)
                  refine goes_ Try.func46 (by kernel_rfl) rfl #[.slice A l.length c] (by rfl) rfl rfl (by simp only [List.map_toArray, List.map_cons, List.map_nil]; rfl) ?_
                  with_reducible refine (hclip.out _).mono ?_
                  rintro e wq ⟨rfl, rfl⟩
                  refine ⟨_, rfl, ?_⟩
                  refine hK.out _ _ ⟨(hq.out _ hbc).1, (hq.out _ hbc).2.1, (hq.out _ hbc).2.2.1, (hq.out _ hbc).2.2.2⟩ (fun hHeld => ?_)
                  clear hK K
                  refine norm_ (a' := ?_) ?_ ?_
                  rotate_left
                  · show Act.put _ (some 46) _ = _
                    simp only [Act.put, List.setIfInBounds_toArray, List.set_cons_zero, List.set_cons_succ, i64_w, i32_w]
                    rfl
                  exact norm_ (by simp only [putAll, Act.put, List.setIfInBounds_toArray, List.set_cons_zero, List.set_cons_succ]) (hCont () _ ⟨⟨(hq.out _ hbc).1, (hq.out _ hbc).2.1, (hq.out _ hbc).2.2.1, (hq.out _ hbc).2.2.2⟩, hlit, hbc⟩)
              rintro _ w6 ⟨hs6, hlit6, hbc6⟩
              have hHeld : w6.cell? ⟨w.heap.size, 0, none⟩ = some (.int .i64 x.f0) ∧ w6.cell? ⟨w.heap.size, 1, none⟩ = some (.int .u64 x.f1) ∧ w6.cell? ⟨w.heap.size, 2, none⟩ = some (.int .i64 x.f2) ∧ w6.cell? ⟨w.heap.size, 3, none⟩ = some (.int .i64 x.f3) := hs6
              refine norm_ (a' := ?_) ?_ ?_
              rotate_left
              · simp only [putAll, Act.put, List.setIfInBounds_toArray, List.set_cons_zero, List.set_cons_succ]
                rfl
              refine one_ (i := 4) (N := some 49) #[true, true, true, true, true, true, true, false, false, false] rfl rfl (by kernel_rfl) (by decide) (fun K hK => ?_)
              obtain ⟨A8, c8, w8, hrun, hR8, hbx8⟩ := happ.out w7.heap.size hbc6 hlit6
              refine clip_step (by rfl) (.tmp 46) (.tmp 48) rfl (by rfl) (by rfl) hrun ?_
              clear hrun
              replace hR8 := Kd.R_lower hR8 hbc6.size
              have hbc8 := Below.trans hbc6 (Below.mono hbx8 hbc6.size)
              refine hK.out _ _ ⟨(hq.out _ hbc8).1, (hq.out _ hbc8).2.1, (hq.out _ hbc8).2.2.1, (hq.out _ hbc8).2.2.2⟩ (fun hHeld => ?_)
              clear hK K
              refine norm_ (a' := ?_) ?_ ?_
              rotate_left
              · show Act.put _ (some 49) _ = _
                simp only [Act.put, List.setIfInBounds_toArray, List.set_cons_zero, List.set_cons_succ, i64_w, i32_w]
                rfl
              refine p_ 7 (some 4) #[true, true, true, true, true, true, true, true, false, false] ?_
              refine p_ 8 (some 5) #[true, true, true, true, true, true, true, true, true, false] ?_
              refine p_ 9 (some 6) #[true, true, true, true, true, true, true, true, true, true] ?_
              refine done_ (by kernel_rfl) ?_
              have hr28 := row28_of_R hR8
              obtain ⟨_, hcd, hCC⟩ := Kd.R_reads' hR8
              have hfin : Hid (AddE A l t (.returned (.tuple #[.slice A8 (l.length + 1) c8, .int .i64 (l.length : Int), .int .i64 0])) w8) := Lib.hid ⟨A8, c8, l ++ [x], (l.length : Int), 0, hadd.out, by rw [List.length_append, List.length_singleton], by rw [List.length_append, List.length_singleton]; exact hcd, hCC, .inr hr28⟩
              clear hR8 hCC hHeld happ hclip hq
              go_wp2
              go_ret3
              exact ⟨hfin.out, below_step hB7.out hbc8⟩
      · have f3 : decide (t.f3 < t.f2) = false := decide_eq_false hlt
        obtain ⟨x, hx⟩ : ∃ x, turnT t = x := ⟨_, rfl⟩
        have hx0 : x = t := by rw [← hx]; unfold turnT; rw [if_neg (fun h => hlt h.2)]
        subst hx0
        replace hx := Lib.hid hx
        have hK3 := hK2
        have hB3 := hB2
        have hC3 := Aside0.mk (Kd.C_below hC.out hB3.out)
        have hix := index_calls A c l x w2 hC3.out hc hlen
        obtain ⟨ix, hixe⟩ : ∃ n, idxT l x = n := ⟨_, rfl⟩
        rw [hixe] at hix
        replace hixe := Lib.hid hixe
        replace hix := Aside0.mk hix
        obtain ⟨y0, y1, y2, y3⟩ := box4 hK3
        go_wp2_with fail
        refine hix.out.mono ?_; rintro e_ w4 ⟨rfl, hb4⟩
        have hK4 := (hb4.block _ (blk_lt hK3)).trans hK3
        have hB4 := Aside0.mk (below_step hB3.out hb4)
        clear hix hb4 hK3 y0 y1 y2 y3
        obtain ⟨y0, y1, y2, y3⟩ := box4 hK4
        go_wp2_with fail
        refine (made_calls (l.length : Int) x _).mono ?_; rintro e_ w7 ⟨rfl, hb7⟩
        have hK7 := (hb7.block _ (blk_lt hK4)).trans hK4
        have hB7 := Aside0.mk (below_step hB4.out hb7)
        have hC7 := Aside0.mk (Kd.C_below hC.out hB7.out)
        clear hb7 hK4 y0 y1 y2 y3
        have HX : turnT x = x := hx.out
        have hadd : addR l x = if madeB l.length x = true then (if 0 ≤ ix then (l, ix, 0) else if l.length = 400 then ([], 0, 6) else (l ++ [x], (l.length : Int), 0)) else ([], 0, 1) := by unfold addR; rw [if_pos hR, (show turnT _ = x from HX), hixe.out]
        cases hmd : madeB (l.length : Int) x with
        | false =>
          have hfin : ∀ W, Hid (AddE A l x (.returned (.tuple #[.slice none 0 0, .int .i64 0, .int .i64 1])) W) := fun W => Lib.hid ⟨none, 0, [], 0, 1, by rw [hadd, hmd, if_neg (by decide)], rfl, Nat.le_refl _, Kd.C_nil _ _, .inr (row28_none _)⟩
          clear hadd hK7 HX
          go_wp2
          go_ret3
          exact ⟨(hfin _).out, hB7.out⟩
        | true =>
          rw [hmd, if_pos rfl] at hadd
          by_cases hi0 : 0 ≤ ix
          · have hfin : Hid (AddE A l x (.returned (.tuple #[.slice A l.length c, .int .i64 ix, .int .i64 0])) w7) := Lib.hid ⟨A, c, l, ix, 0, by rw [hadd, if_pos hi0], rfl, hc, hC7.out, .inl rfl⟩
            have e1 : decide (0 ≤ ix) = true := decide_eq_true hi0
            clear hadd hK7
            go_wp2
            go_ret3
            exact ⟨hfin.out, hB7.out⟩
          · have e1 : decide (0 ≤ ix) = false := decide_eq_false hi0
            rw [if_neg hi0] at hadd
            by_cases hfull : l.length = 400
            · have hfin : ∀ W, Hid (AddE A l x (.returned (.tuple #[.slice none 0 0, .int .i64 0, .int .i64 6])) W) := fun W => Lib.hid ⟨none, 0, [], 0, 6, by rw [hadd, if_pos hfull], rfl, Nat.le_refl _, Kd.C_nil _ _, .inr (row28_none _)⟩
              have e2 : ((l.length : Int) == 400) = true := beq_iff_eq.2 (by omega)
              have e3 : (l.length : Int) = 400 := by omega
              clear hadd hK7
              go_wp2
              go_ret3
              exact ⟨(hfin _).out, hB7.out⟩
            · have e2 : ((l.length : Int) == 400) = false := beq_eq_false_iff_ne.2 (by omega)
              have e3 : ¬ (l.length : Int) = 400 := by omega
              have hl400 : l.length ≤ 400 := of_decide_eq_true (Bool.and_eq_true_iff.1 hR).2
              have hq : Hid (∀ W, Below w7.heap.size w7 W → W.cell? ⟨w.heap.size, 0, none⟩ = some (.int .i64 x.f0) ∧ W.cell? ⟨w.heap.size, 1, none⟩ = some (.int .u64 x.f1) ∧ W.cell? ⟨w.heap.size, 2, none⟩ = some (.int .i64 x.f2) ∧ W.cell? ⟨w.heap.size, 3, none⟩ = some (.int .i64 x.f3)) := Lib.hid fun W hW => box4 ((hW.block _ (blk_lt hK7)).trans hK7)
              have hclip := Lib.hid (fun W => clipT_calls A c l W hc)
              have happ : Hid (∀ (g : Nat) {W : World}, Below w7.heap.size w7 W → W.heap[g]? = some (.cells #[.int .i64 x.f0, .int .u64 x.f1, .int .i64 x.f2, .int .i64 x.f3] 28 (0, 0)) → ∃ A1 c1 w1, (Builtin.append_ #[23, 23] 23 #[.slice A l.length l.length, .slice (some ⟨g, 0, none⟩) 1 1]).run Try.prog W = .ok (.slice A1 (l.length + 1) c1) w1 ∧ Kd.R k28 28 w1 W.heap.size (fun _ => True) (.slice A1 (l.length + 1) c1) (l ++ [x]) ∧ Below W.heap.size W w1) := Lib.hid fun g W hW hg => by
                have := run_append_clip k28 (W := W) 23 23 28 (.agg #[(.int .i64 0), (.int .u64 0), (.int .i64 0), (.int .i64 0)]) 32 Try.underlying23 info28 rfl (by decide) (by omega) A l [x] ⟨g, 0, none⟩ 1 (Kd.C_below hC7.out hW) (one_C28 (m := x) hg) (by simp) (fun w1 base ok y cs h => by obtain rfl := k28_open h; exact k28_mkM _ _ _ _) (by simp only [List.length_singleton]; omega)
                obtain ⟨v1, w1, h1, h2, h3⟩ := this
                obtain ⟨A1, c1, rfl, -, -⟩ := Kd.R_reads h2
                rw [List.length_append, List.length_singleton] at h1 h2
                exact ⟨A1, c1, w1, h1, h2, h3⟩
              replace hadd := Lib.hid (hadd.trans (if_neg hfull))
              clear hK7
              go_wp2
              refine start_ (n := 10) (S := fun w' => w'.cell? ⟨w.heap.size, 0, none⟩ = some (.int .i64 x.f0) ∧ w'.cell? ⟨w.heap.size, 1, none⟩ = some (.int .u64 x.f1) ∧ w'.cell? ⟨w.heap.size, 2, none⟩ = some (.int .i64 x.f2) ∧ w'.cell? ⟨w.heap.size, 3, none⟩ = some (.int .i64 x.f3)) (ds := []) #[false, false, false, false, false, false, false, false, false, false] (by kernel_rfl) rfl rfl ⟨(hq.out _ (Below.refl w7.heap.size w7).drew).1, (hq.out _ (Below.refl w7.heap.size w7).drew).2.1, (hq.out _ (Below.refl w7.heap.size w7).drew).2.2.1, (hq.out _ (Below.refl w7.heap.size w7).drew).2.2.2⟩ (fun hHeld => ?_)
              refine p_ 0 (some 45) #[true, false, false, false, false, false, false, false, false, false] ?_
              refine p_ 5 (some 50) #[true, false, false, false, false, true, false, false, false, false] ?_
              refine p_ 6 (some 51) #[true, false, false, false, false, true, true, false, false, false] ?_
              refine t_ 2 (some 47) #[true, false, true, false, false, true, true, false, false, false] hHeld (hv := by rintro w' ⟨s0, s1, s2, s3⟩; go_simp; with_reducible rfl) (h := ?_)
              refine join_ (σ := Unit) 4 #[true, true, true, true, false, true, true, false, false, false] (fun s_ => [(46, .slice A l.length l.length), (48, .slice (some ⟨w7.heap.size, 0, none⟩) 1 1)]) (fun s_ w' => (w'.cell? ⟨w.heap.size, 0, none⟩ = some (.int .i64 x.f0) ∧ w'.cell? ⟨w.heap.size, 1, none⟩ = some (.int .u64 x.f1) ∧ w'.cell? ⟨w.heap.size, 2, none⟩ = some (.int .i64 x.f2) ∧ w'.cell? ⟨w.heap.size, 3, none⟩ = some (.int .i64 x.f3)) ∧ w'.heap[w7.heap.size]? = some (.cells #[.int .i64 x.f0, .int .u64 x.f1, .int .i64 x.f2, .int .i64 x.f3] 28 (0, 0)) ∧ Below w7.heap.size w7 w') ?_ ?_
              rotate_left
              · intro hCont
                refine two_ (i := 1) (j := 3) (Ni := some 46) (Nj := some 48) #[true, true, true, false, false, true, true, false, false, false] #[true, false, true, true, false, true, true, false, false, false] rfl rfl rfl rfl (by kernel_rfl) (by decide) (by decide) (fun K hK => ?_) (fun K hK => ?_)
                · skip
                  refine goes_ Try.func46 (by kernel_rfl) rfl #[.slice A l.length c] (by rfl) rfl rfl (by simp only [List.map_toArray, List.map_cons, List.map_nil]; rfl) ?_
                  with_reducible refine (hclip.out _).mono ?_
                  rintro e wq ⟨rfl, rfl⟩
                  refine ⟨_, rfl, ?_⟩
                  have hbc := (Below.refl w7.heap.size w7).drew
                  refine hK.out _ _ ⟨(hq.out _ hbc).1, (hq.out _ hbc).2.1, (hq.out _ hbc).2.2.1, (hq.out _ hbc).2.2.2⟩ (fun hHeld => ?_)
                  clear hK K
                  refine norm_ (a' := ?_) ?_ ?_
                  rotate_left
                  · show Act.put _ (some 46) _ = _
                    simp only [Act.put, List.setIfInBounds_toArray, List.set_cons_zero, List.set_cons_succ, i64_w, i32_w]
                    rfl
                  refine one_ (i := 3) (N := some 48) #[true, true, true, true, false, true, true, false, false, false] rfl rfl (by kernel_rfl) (by decide) (fun K hK => ?_)
                  refine value_ (w1 := ?_) (v := ?_) (by rfl) rfl ?_ ?_
                  rotate_left 2
                  · go_simp
                    constructor
                    · rfl
                    · rfl
                  have hlit := heap_alloc_new w7.drew (.cells #[.int .i64 x.f0, .int .u64 x.f1, .int .i64 x.f2, .int .i64 x.f3] 28 (0, 0))
                  have hbc := below_alloc hbc (.cells #[.int .i64 x.f0, .int .u64 x.f1, .int .i64 x.f2, .int .i64 x.f3] 28 (0, 0))
                  refine hK.out _ _ ⟨(hq.out _ hbc).1, (hq.out _ hbc).2.1, (hq.out _ hbc).2.2.1, (hq.out _ hbc).2.2.2⟩ (fun hHeld => ?_)
                  clear hK K
                  refine norm_ (a' := ?_) ?_ ?_
                  rotate_left
                  · show Act.put _ (some 48) _ = _
                    simp only [Act.put, List.setIfInBounds_toArray, List.set_cons_zero, List.set_cons_succ, i64_w, i32_w]
                    rfl
                  exact norm_ (by simp only [putAll, Act.put, List.setIfInBounds_toArray, List.set_cons_zero, List.set_cons_succ]) (hCont () _ ⟨⟨(hq.out _ hbc).1, (hq.out _ hbc).2.1, (hq.out _ hbc).2.2.1, (hq.out _ hbc).2.2.2⟩, hlit, hbc⟩)
                · skip
                  refine value_ (w1 := ?_) (v := ?_) (by rfl) rfl ?_ ?_
                  rotate_left 2
                  · go_simp
                    constructor
                    · rfl
                    · rfl
                  have hbc := (Below.refl w7.heap.size w7).drew
                  have hlit := heap_alloc_new w7.drew (.cells #[.int .i64 x.f0, .int .u64 x.f1, .int .i64 x.f2, .int .i64 x.f3] 28 (0, 0))
                  have hbc := below_alloc hbc (.cells #[.int .i64 x.f0, .int .u64 x.f1, .int .i64 x.f2, .int .i64 x.f3] 28 (0, 0))
                  refine hK.out _ _ ⟨(hq.out _ hbc).1, (hq.out _ hbc).2.1, (hq.out _ hbc).2.2.1, (hq.out _ hbc).2.2.2⟩ (fun hHeld => ?_)
                  clear hK K
                  refine norm_ (a' := ?_) ?_ ?_
                  rotate_left
                  · show Act.put _ (some 48) _ = _
                    simp only [Act.put, List.setIfInBounds_toArray, List.set_cons_zero, List.set_cons_succ, i64_w, i32_w]
                    rfl
                  refine one_ (i := 1) (N := some 46) #[true, true, true, true, false, true, true, false, false, false] rfl rfl (by kernel_rfl) (by decide) (fun K hK => ?_)
                  refine goes_ Try.func46 (by kernel_rfl) rfl #[.slice A l.length c] (by rfl) rfl rfl (by simp only [List.map_toArray, List.map_cons, List.map_nil]; rfl) ?_
                  with_reducible refine (hclip.out _).mono ?_
                  rintro e wq ⟨rfl, rfl⟩
                  refine ⟨_, rfl, ?_⟩
                  refine hK.out _ _ ⟨(hq.out _ hbc).1, (hq.out _ hbc).2.1, (hq.out _ hbc).2.2.1, (hq.out _ hbc).2.2.2⟩ (fun hHeld => ?_)
                  clear hK K
                  refine norm_ (a' := ?_) ?_ ?_
                  rotate_left
                  · show Act.put _ (some 46) _ = _
                    simp only [Act.put, List.setIfInBounds_toArray, List.set_cons_zero, List.set_cons_succ, i64_w, i32_w]
                    rfl
                  exact norm_ (by simp only [putAll, Act.put, List.setIfInBounds_toArray, List.set_cons_zero, List.set_cons_succ]) (hCont () _ ⟨⟨(hq.out _ hbc).1, (hq.out _ hbc).2.1, (hq.out _ hbc).2.2.1, (hq.out _ hbc).2.2.2⟩, hlit, hbc⟩)
              rintro _ w6 ⟨hs6, hlit6, hbc6⟩
              have hHeld : w6.cell? ⟨w.heap.size, 0, none⟩ = some (.int .i64 x.f0) ∧ w6.cell? ⟨w.heap.size, 1, none⟩ = some (.int .u64 x.f1) ∧ w6.cell? ⟨w.heap.size, 2, none⟩ = some (.int .i64 x.f2) ∧ w6.cell? ⟨w.heap.size, 3, none⟩ = some (.int .i64 x.f3) := hs6
              refine norm_ (a' := ?_) ?_ ?_
              rotate_left
              · simp only [putAll, Act.put, List.setIfInBounds_toArray, List.set_cons_zero, List.set_cons_succ]
                rfl
              refine one_ (i := 4) (N := some 49) #[true, true, true, true, true, true, true, false, false, false] rfl rfl (by kernel_rfl) (by decide) (fun K hK => ?_)
              obtain ⟨A8, c8, w8, hrun, hR8, hbx8⟩ := happ.out w7.heap.size hbc6 hlit6
              refine clip_step (by rfl) (.tmp 46) (.tmp 48) rfl (by rfl) (by rfl) hrun ?_
              clear hrun
              replace hR8 := Kd.R_lower hR8 hbc6.size
              have hbc8 := Below.trans hbc6 (Below.mono hbx8 hbc6.size)
              refine hK.out _ _ ⟨(hq.out _ hbc8).1, (hq.out _ hbc8).2.1, (hq.out _ hbc8).2.2.1, (hq.out _ hbc8).2.2.2⟩ (fun hHeld => ?_)
              clear hK K
              refine norm_ (a' := ?_) ?_ ?_
              rotate_left
              · show Act.put _ (some 49) _ = _
                simp only [Act.put, List.setIfInBounds_toArray, List.set_cons_zero, List.set_cons_succ, i64_w, i32_w]
                rfl
              refine p_ 7 (some 4) #[true, true, true, true, true, true, true, true, false, false] ?_
              refine p_ 8 (some 5) #[true, true, true, true, true, true, true, true, true, false] ?_
              refine p_ 9 (some 6) #[true, true, true, true, true, true, true, true, true, true] ?_
              refine done_ (by kernel_rfl) ?_
              have hr28 := row28_of_R hR8
              obtain ⟨_, hcd, hCC⟩ := Kd.R_reads' hR8
              have hfin : Hid (AddE A l x (.returned (.tuple #[.slice A8 (l.length + 1) c8, .int .i64 (l.length : Int), .int .i64 0])) w8) := Lib.hid ⟨A8, c8, l ++ [x], (l.length : Int), 0, hadd.out, by rw [List.length_append, List.length_singleton], by rw [List.length_append, List.length_singleton]; exact hcd, hCC, .inr hr28⟩
              clear hR8 hCC hHeld happ hclip hq
              go_wp2
              go_ret3
              exact ⟨hfin.out, below_step hB7.out hbc8⟩
    · have f2 : (t.f0 == 2) = false := beq_eq_false_iff_ne.2 h2
      obtain ⟨x, hx⟩ : ∃ x, turnT t = x := ⟨_, rfl⟩
      have hx0 : x = t := by rw [← hx]; unfold turnT; rw [if_neg (fun h => h2 h.1)]
      subst hx0
      replace hx := Lib.hid hx
      have hK3 := hK2
      have hB3 := hB2
      have hC3 := Aside0.mk (Kd.C_below hC.out hB3.out)
      have hix := index_calls A c l x w2 hC3.out hc hlen
      obtain ⟨ix, hixe⟩ : ∃ n, idxT l x = n := ⟨_, rfl⟩
      rw [hixe] at hix
      replace hixe := Lib.hid hixe
      replace hix := Aside0.mk hix
      obtain ⟨y0, y1, y2, y3⟩ := box4 hK3
      go_wp2_with fail
      refine hix.out.mono ?_; rintro e_ w4 ⟨rfl, hb4⟩
      have hK4 := (hb4.block _ (blk_lt hK3)).trans hK3
      have hB4 := Aside0.mk (below_step hB3.out hb4)
      clear hix hb4 hK3 y0 y1 y2 y3
      obtain ⟨y0, y1, y2, y3⟩ := box4 hK4
      go_wp2_with fail
      refine (made_calls (l.length : Int) x _).mono ?_; rintro e_ w7 ⟨rfl, hb7⟩
      have hK7 := (hb7.block _ (blk_lt hK4)).trans hK4
      have hB7 := Aside0.mk (below_step hB4.out hb7)
      have hC7 := Aside0.mk (Kd.C_below hC.out hB7.out)
      clear hb7 hK4 y0 y1 y2 y3
      have HX : turnT x = x := hx.out
      have hadd : addR l x = if madeB l.length x = true then (if 0 ≤ ix then (l, ix, 0) else if l.length = 400 then ([], 0, 6) else (l ++ [x], (l.length : Int), 0)) else ([], 0, 1) := by unfold addR; rw [if_pos hR, (show turnT _ = x from HX), hixe.out]
      cases hmd : madeB (l.length : Int) x with
      | false =>
        have hfin : ∀ W, Hid (AddE A l x (.returned (.tuple #[.slice none 0 0, .int .i64 0, .int .i64 1])) W) := fun W => Lib.hid ⟨none, 0, [], 0, 1, by rw [hadd, hmd, if_neg (by decide)], rfl, Nat.le_refl _, Kd.C_nil _ _, .inr (row28_none _)⟩
        clear hadd hK7 HX
        go_wp2
        go_ret3
        exact ⟨(hfin _).out, hB7.out⟩
      | true =>
        rw [hmd, if_pos rfl] at hadd
        by_cases hi0 : 0 ≤ ix
        · have hfin : Hid (AddE A l x (.returned (.tuple #[.slice A l.length c, .int .i64 ix, .int .i64 0])) w7) := Lib.hid ⟨A, c, l, ix, 0, by rw [hadd, if_pos hi0], rfl, hc, hC7.out, .inl rfl⟩
          have e1 : decide (0 ≤ ix) = true := decide_eq_true hi0
          clear hadd hK7
          go_wp2
          go_ret3
          exact ⟨hfin.out, hB7.out⟩
        · have e1 : decide (0 ≤ ix) = false := decide_eq_false hi0
          rw [if_neg hi0] at hadd
          by_cases hfull : l.length = 400
          · have hfin : ∀ W, Hid (AddE A l x (.returned (.tuple #[.slice none 0 0, .int .i64 0, .int .i64 6])) W) := fun W => Lib.hid ⟨none, 0, [], 0, 6, by rw [hadd, if_pos hfull], rfl, Nat.le_refl _, Kd.C_nil _ _, .inr (row28_none _)⟩
            have e2 : ((l.length : Int) == 400) = true := beq_iff_eq.2 (by omega)
            have e3 : (l.length : Int) = 400 := by omega
            clear hadd hK7
            go_wp2
            go_ret3
            exact ⟨(hfin _).out, hB7.out⟩
          · have e2 : ((l.length : Int) == 400) = false := beq_eq_false_iff_ne.2 (by omega)
            have e3 : ¬ (l.length : Int) = 400 := by omega
            have hl400 : l.length ≤ 400 := of_decide_eq_true (Bool.and_eq_true_iff.1 hR).2
            have hq : Hid (∀ W, Below w7.heap.size w7 W → W.cell? ⟨w.heap.size, 0, none⟩ = some (.int .i64 x.f0) ∧ W.cell? ⟨w.heap.size, 1, none⟩ = some (.int .u64 x.f1) ∧ W.cell? ⟨w.heap.size, 2, none⟩ = some (.int .i64 x.f2) ∧ W.cell? ⟨w.heap.size, 3, none⟩ = some (.int .i64 x.f3)) := Lib.hid fun W hW => box4 ((hW.block _ (blk_lt hK7)).trans hK7)
            have hclip := Lib.hid (fun W => clipT_calls A c l W hc)
            have happ : Hid (∀ (g : Nat) {W : World}, Below w7.heap.size w7 W → W.heap[g]? = some (.cells #[.int .i64 x.f0, .int .u64 x.f1, .int .i64 x.f2, .int .i64 x.f3] 28 (0, 0)) → ∃ A1 c1 w1, (Builtin.append_ #[23, 23] 23 #[.slice A l.length l.length, .slice (some ⟨g, 0, none⟩) 1 1]).run Try.prog W = .ok (.slice A1 (l.length + 1) c1) w1 ∧ Kd.R k28 28 w1 W.heap.size (fun _ => True) (.slice A1 (l.length + 1) c1) (l ++ [x]) ∧ Below W.heap.size W w1) := Lib.hid fun g W hW hg => by
              have := run_append_clip k28 (W := W) 23 23 28 (.agg #[(.int .i64 0), (.int .u64 0), (.int .i64 0), (.int .i64 0)]) 32 Try.underlying23 info28 rfl (by decide) (by omega) A l [x] ⟨g, 0, none⟩ 1 (Kd.C_below hC7.out hW) (one_C28 (m := x) hg) (by simp) (fun w1 base ok y cs h => by obtain rfl := k28_open h; exact k28_mkM _ _ _ _) (by simp only [List.length_singleton]; omega)
              obtain ⟨v1, w1, h1, h2, h3⟩ := this
              obtain ⟨A1, c1, rfl, -, -⟩ := Kd.R_reads h2
              rw [List.length_append, List.length_singleton] at h1 h2
              exact ⟨A1, c1, w1, h1, h2, h3⟩
            replace hadd := Lib.hid (hadd.trans (if_neg hfull))
            clear hK7
            go_wp2
            refine start_ (n := 10) (S := fun w' => w'.cell? ⟨w.heap.size, 0, none⟩ = some (.int .i64 x.f0) ∧ w'.cell? ⟨w.heap.size, 1, none⟩ = some (.int .u64 x.f1) ∧ w'.cell? ⟨w.heap.size, 2, none⟩ = some (.int .i64 x.f2) ∧ w'.cell? ⟨w.heap.size, 3, none⟩ = some (.int .i64 x.f3)) (ds := []) #[false, false, false, false, false, false, false, false, false, false] (by kernel_rfl) rfl rfl ⟨(hq.out _ (Below.refl w7.heap.size w7).drew).1, (hq.out _ (Below.refl w7.heap.size w7).drew).2.1, (hq.out _ (Below.refl w7.heap.size w7).drew).2.2.1, (hq.out _ (Below.refl w7.heap.size w7).drew).2.2.2⟩ (fun hHeld => ?_)
            refine p_ 0 (some 45) #[true, false, false, false, false, false, false, false, false, false] ?_
            refine p_ 5 (some 50) #[true, false, false, false, false, true, false, false, false, false] ?_
            refine p_ 6 (some 51) #[true, false, false, false, false, true, true, false, false, false] ?_
            refine t_ 2 (some 47) #[true, false, true, false, false, true, true, false, false, false] hHeld (hv := by rintro w' ⟨s0, s1, s2, s3⟩; go_simp; with_reducible rfl) (h := ?_)
            refine join_ (σ := Unit) 4 #[true, true, true, true, false, true, true, false, false, false] (fun s_ => [(46, .slice A l.length l.length), (48, .slice (some ⟨w7.heap.size, 0, none⟩) 1 1)]) (fun s_ w' => (w'.cell? ⟨w.heap.size, 0, none⟩ = some (.int .i64 x.f0) ∧ w'.cell? ⟨w.heap.size, 1, none⟩ = some (.int .u64 x.f1) ∧ w'.cell? ⟨w.heap.size, 2, none⟩ = some (.int .i64 x.f2) ∧ w'.cell? ⟨w.heap.size, 3, none⟩ = some (.int .i64 x.f3)) ∧ w'.heap[w7.heap.size]? = some (.cells #[.int .i64 x.f0, .int .u64 x.f1, .int .i64 x.f2, .int .i64 x.f3] 28 (0, 0)) ∧ Below w7.heap.size w7 w') ?_ ?_
            rotate_left
            · intro hCont
              refine two_ (i := 1) (j := 3) (Ni := some 46) (Nj := some 48) #[true, true, true, false, false, true, true, false, false, false] #[true, false, true, true, false, true, true, false, false, false] rfl rfl rfl rfl (by kernel_rfl) (by decide) (by decide) (fun K hK => ?_) (fun K hK => ?_)
              · skip
                refine goes_ Try.func46 (by kernel_rfl) rfl #[.slice A l.length c] (by rfl) rfl rfl (by simp only [List.map_toArray, List.map_cons, List.map_nil]; rfl) ?_
                with_reducible refine (hclip.out _).mono ?_
                rintro e wq ⟨rfl, rfl⟩
                refine ⟨_, rfl, ?_⟩
                have hbc := (Below.refl w7.heap.size w7).drew
                refine hK.out _ _ ⟨(hq.out _ hbc).1, (hq.out _ hbc).2.1, (hq.out _ hbc).2.2.1, (hq.out _ hbc).2.2.2⟩ (fun hHeld => ?_)
                clear hK K
                refine norm_ (a' := ?_) ?_ ?_
                rotate_left
                · show Act.put _ (some 46) _ = _
                  simp only [Act.put, List.setIfInBounds_toArray, List.set_cons_zero, List.set_cons_succ, i64_w, i32_w]
                  rfl
                refine one_ (i := 3) (N := some 48) #[true, true, true, true, false, true, true, false, false, false] rfl rfl (by kernel_rfl) (by decide) (fun K hK => ?_)
                refine value_ (w1 := ?_) (v := ?_) (by rfl) rfl ?_ ?_
                rotate_left 2
                · go_simp
                  constructor
                  · rfl
                  · rfl
                have hlit := heap_alloc_new w7.drew (.cells #[.int .i64 x.f0, .int .u64 x.f1, .int .i64 x.f2, .int .i64 x.f3] 28 (0, 0))
                have hbc := below_alloc hbc (.cells #[.int .i64 x.f0, .int .u64 x.f1, .int .i64 x.f2, .int .i64 x.f3] 28 (0, 0))
                refine hK.out _ _ ⟨(hq.out _ hbc).1, (hq.out _ hbc).2.1, (hq.out _ hbc).2.2.1, (hq.out _ hbc).2.2.2⟩ (fun hHeld => ?_)
                clear hK K
                refine norm_ (a' := ?_) ?_ ?_
                rotate_left
                · show Act.put _ (some 48) _ = _
                  simp only [Act.put, List.setIfInBounds_toArray, List.set_cons_zero, List.set_cons_succ, i64_w, i32_w]
                  rfl
                exact norm_ (by simp only [putAll, Act.put, List.setIfInBounds_toArray, List.set_cons_zero, List.set_cons_succ]) (hCont () _ ⟨⟨(hq.out _ hbc).1, (hq.out _ hbc).2.1, (hq.out _ hbc).2.2.1, (hq.out _ hbc).2.2.2⟩, hlit, hbc⟩)
              · skip
                refine value_ (w1 := ?_) (v := ?_) (by rfl) rfl ?_ ?_
                rotate_left 2
                · go_simp
                  constructor
                  · rfl
                  · rfl
                have hbc := (Below.refl w7.heap.size w7).drew
                have hlit := heap_alloc_new w7.drew (.cells #[.int .i64 x.f0, .int .u64 x.f1, .int .i64 x.f2, .int .i64 x.f3] 28 (0, 0))
                have hbc := below_alloc hbc (.cells #[.int .i64 x.f0, .int .u64 x.f1, .int .i64 x.f2, .int .i64 x.f3] 28 (0, 0))
                refine hK.out _ _ ⟨(hq.out _ hbc).1, (hq.out _ hbc).2.1, (hq.out _ hbc).2.2.1, (hq.out _ hbc).2.2.2⟩ (fun hHeld => ?_)
                clear hK K
                refine norm_ (a' := ?_) ?_ ?_
                rotate_left
                · show Act.put _ (some 48) _ = _
                  simp only [Act.put, List.setIfInBounds_toArray, List.set_cons_zero, List.set_cons_succ, i64_w, i32_w]
                  rfl
                refine one_ (i := 1) (N := some 46) #[true, true, true, true, false, true, true, false, false, false] rfl rfl (by kernel_rfl) (by decide) (fun K hK => ?_)
                refine goes_ Try.func46 (by kernel_rfl) rfl #[.slice A l.length c] (by rfl) rfl rfl (by simp only [List.map_toArray, List.map_cons, List.map_nil]; rfl) ?_
                with_reducible refine (hclip.out _).mono ?_
                rintro e wq ⟨rfl, rfl⟩
                refine ⟨_, rfl, ?_⟩
                refine hK.out _ _ ⟨(hq.out _ hbc).1, (hq.out _ hbc).2.1, (hq.out _ hbc).2.2.1, (hq.out _ hbc).2.2.2⟩ (fun hHeld => ?_)
                clear hK K
                refine norm_ (a' := ?_) ?_ ?_
                rotate_left
                · show Act.put _ (some 46) _ = _
                  simp only [Act.put, List.setIfInBounds_toArray, List.set_cons_zero, List.set_cons_succ, i64_w, i32_w]
                  rfl
                exact norm_ (by simp only [putAll, Act.put, List.setIfInBounds_toArray, List.set_cons_zero, List.set_cons_succ]) (hCont () _ ⟨⟨(hq.out _ hbc).1, (hq.out _ hbc).2.1, (hq.out _ hbc).2.2.1, (hq.out _ hbc).2.2.2⟩, hlit, hbc⟩)
            rintro _ w6 ⟨hs6, hlit6, hbc6⟩
            have hHeld : w6.cell? ⟨w.heap.size, 0, none⟩ = some (.int .i64 x.f0) ∧ w6.cell? ⟨w.heap.size, 1, none⟩ = some (.int .u64 x.f1) ∧ w6.cell? ⟨w.heap.size, 2, none⟩ = some (.int .i64 x.f2) ∧ w6.cell? ⟨w.heap.size, 3, none⟩ = some (.int .i64 x.f3) := hs6
            refine norm_ (a' := ?_) ?_ ?_
            rotate_left
            · simp only [putAll, Act.put, List.setIfInBounds_toArray, List.set_cons_zero, List.set_cons_succ]
              rfl
            refine one_ (i := 4) (N := some 49) #[true, true, true, true, true, true, true, false, false, false] rfl rfl (by kernel_rfl) (by decide) (fun K hK => ?_)
            obtain ⟨A8, c8, w8, hrun, hR8, hbx8⟩ := happ.out w7.heap.size hbc6 hlit6
            refine clip_step (by rfl) (.tmp 46) (.tmp 48) rfl (by rfl) (by rfl) hrun ?_
            clear hrun
            replace hR8 := Kd.R_lower hR8 hbc6.size
            have hbc8 := Below.trans hbc6 (Below.mono hbx8 hbc6.size)
            refine hK.out _ _ ⟨(hq.out _ hbc8).1, (hq.out _ hbc8).2.1, (hq.out _ hbc8).2.2.1, (hq.out _ hbc8).2.2.2⟩ (fun hHeld => ?_)
            clear hK K
            refine norm_ (a' := ?_) ?_ ?_
            rotate_left
            · show Act.put _ (some 49) _ = _
              simp only [Act.put, List.setIfInBounds_toArray, List.set_cons_zero, List.set_cons_succ, i64_w, i32_w]
              rfl
            refine p_ 7 (some 4) #[true, true, true, true, true, true, true, true, false, false] ?_
            refine p_ 8 (some 5) #[true, true, true, true, true, true, true, true, true, false] ?_
            refine p_ 9 (some 6) #[true, true, true, true, true, true, true, true, true, true] ?_
            refine done_ (by kernel_rfl) ?_
            have hr28 := row28_of_R hR8
            obtain ⟨_, hcd, hCC⟩ := Kd.R_reads' hR8
            have hfin : Hid (AddE A l x (.returned (.tuple #[.slice A8 (l.length + 1) c8, .int .i64 (l.length : Int), .int .i64 0])) w8) := Lib.hid ⟨A8, c8, l ++ [x], (l.length : Int), 0, hadd.out, by rw [List.length_append, List.length_singleton], by rw [List.length_append, List.length_singleton]; exact hcd, hCC, .inr hr28⟩
            clear hR8 hCC hHeld happ hclip hq
            go_wp2
            go_ret3
            exact ⟨hfin.out, below_step hB7.out hbc8⟩
end Go.Proofs.Ytenmmeehgnkcpaa.Q
