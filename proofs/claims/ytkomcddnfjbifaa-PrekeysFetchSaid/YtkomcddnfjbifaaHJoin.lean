/- slices.Insert of one shelf into a row of one's own: at any place, with room or without.
   Conditions: at most 1000000 shelves. -/
import Derived.Test.YtkomcddnfjbifaaHGrow
namespace Go.Proofs.Ytkomcddnfjbifaa.Q
open Go.RowKit Go.Proofs.YtkomcddnfjbifaaW.PrintWords Go.Proofs.YtkomcddnfjbifaaW.PrintLast Go.Proofs.YtkomcddnfjbifaaW.PrintMore
set_option linter.unusedVariables false
set_option linter.unusedSimpArgs false

/-- One element in a box of its own, as a row. -/
theorem one_C {w0 w : World} {x : S29} {cs : List Value} {vb : Nat} (hK : k29.K w0 x cs) (hv : w.heap[vb]? = some (.cells cs.toArray 29 (0, 0))) : (kr w0).C w (some ⟨vb, 0, none⟩) 1 [x] := by
  have hl : cs.length = 5 := k29.K_len hK
  refine ⟨rfl, by omega, fun _ => ⟨_, rfl, fun j p hj => ?_⟩⟩
  obtain ⟨rfl, rfl⟩ : j = 0 ∧ p = x := by
    rcases j with _ | j
    · exact ⟨rfl, by simpa using hj.symm⟩
    · simp at hj
  refine ⟨cs, hl, hK, fun i u hu => ?_⟩
  rw [Addr.add_lit, show 0 + (0 * (kr w0).sz + i) = i by omega, blk_cell hv]
  simpa using hu
set_option maxHeartbeats 1000000 in
set_option maxRecDepth 100000 in
theorem insert_end (base : Nat) (A : Option Addr) (cap : Nat) (xs : List S29) (x : S29) (vb : Nat) (cs : List Value) (w0 w : World) (hR : Kd.R (kr w0) 29 w base (fun _ => True) (.slice A xs.length cap) xs) (hbase : base ≤ w.heap.size) (hlim : xs.length ≤ 1000000) (hK : k29.K w0 x cs) (hv : w.heap[vb]? = some (.cells cs.toArray 29 (0, 0))) :
    Calls Try.prog 35 #[.slice A xs.length cap, .int .i64 (xs.length : Int), .slice (some ⟨vb, 0, none⟩) 1 1] w fun e w' => ∃ v, e = .returned v ∧ Kd.R (kr w0) 29 w' base (fun _ => True) v (xs ++ [x]) ∧ Below base w w' := by
  have hC := one_C hK hv
  replace hC := Aside0.mk hC
  have hform : (A = none ∧ xs.length = 0 ∧ cap = 0) ∨ (∃ g, A = some ⟨g, 0, none⟩ ∧ xs.length ≤ cap ∧ cap ≤ 9223372036854775807) := by
    obtain ⟨_, inner, ho, _⟩ := hR
    rcases ho.2 with ⟨he, hn⟩ | ⟨g, cap', cur, he, _, _, hnc, hcm, _⟩
    · injection he with e1 e2 e3
      exact .inl ⟨e1, e2, e3⟩
    · injection he with e1 e2 e3
      subst e3
      exact .inr ⟨g, e1, hnc, hcm⟩
  have hB0 : Below base w w := Below.mono (Below.refl w.heap.size w) hbase
  have HR := Aside0.mk hR
  clear hR hv hK
  generalize hn : xs.length = n at HR hform hlim ⊢
  rcases hform with ⟨rfl, rfl, rfl⟩ | ⟨g, rfl, hnc, hcm⟩
  · go_enter Try.func35, Try.ntmps35
    go_wp2_with ((with_reducible refine gate_builtin (b := .append) (xs := #[.tmp 23, .tmp 24]) rfl ?_); at_builtin; refine Kd.R_append_rows (kr w0) (w0 := w) base rfl (.tmp 23) (.tmp 24) 22 29 (.agg #[(.int .u64 0), (.string ⟨#[]⟩), (.int .u64 0), (.string ⟨#[]⟩), (.slice none 0 0)]) 72 rfl Try.underlying22 info29 rfl (by show 0 < 5; omega) (by omega) _ xs [x] _ _ _ (fun _ => True) (fun _ => False) rfl rfl HR.out hC.out (fun _ _ h => h) (fun _ h => h.elim) (fun _ _ => trivial) hB0 hbase (by rw [hn]; omega) ?_; intro v2 w2 ho hb hg hat; clear hg hat)
    go_ret
    exact ⟨_, rfl, ho, hb⟩
  · have hci : (cap = n) = (n = cap) := propext ⟨Eq.symm, Eq.symm⟩
    by_cases hcn : n = cap
    · go_enter Try.func35, Try.ntmps35
      go_wp2_with ((with_reducible refine gate_builtin (b := .append) (xs := #[.tmp 23, .tmp 24]) rfl ?_); at_builtin; refine Kd.R_append_rows (kr w0) (w0 := w) base rfl (.tmp 23) (.tmp 24) 22 29 (.agg #[(.int .u64 0), (.string ⟨#[]⟩), (.int .u64 0), (.string ⟨#[]⟩), (.slice none 0 0)]) 72 rfl Try.underlying22 info29 rfl (by show 0 < 5; omega) (by omega) _ xs [x] _ _ _ (fun _ => True) (fun _ => False) rfl rfl HR.out hC.out (fun _ _ h => h) (fun _ h => h.elim) (fun _ _ => trivial) hB0 hbase (by rw [hn]; omega) ?_; intro v2 w2 ho hb hg hat; clear hg hat)
      go_ret
      exact ⟨_, rfl, ho, hb⟩
    · go_enter Try.func35, Try.ntmps35
      go_wp2_with ((with_reducible refine gate_builtin (b := .append) (xs := #[.tmp 23, .tmp 24]) rfl ?_); at_builtin; refine Kd.R_append_rows (kr w0) (w0 := w) base rfl (.tmp 23) (.tmp 24) 22 29 (.agg #[(.int .u64 0), (.string ⟨#[]⟩), (.int .u64 0), (.string ⟨#[]⟩), (.slice none 0 0)]) 72 rfl Try.underlying22 info29 rfl (by show 0 < 5; omega) (by omega) _ xs [x] _ _ _ (fun _ => True) (fun _ => False) rfl rfl HR.out hC.out (fun _ _ h => h) (fun _ h => h.elim) (fun _ _ => trivial) hB0 hbase (by rw [hn]; omega) ?_; intro v2 w2 ho hb hg hat; clear hg hat)
      go_ret
      exact ⟨_, rfl, ho, hb⟩
theorem reps_insert {α : Type} {R : α → List Value → Prop} {size i : Nat} {ps : List α} {cs vs : List Value} {x : α} (h : Reps R size ps cs) (hi : i ≤ ps.length) (hx : R x vs) (hl : vs.length = size) : Reps R size (ps.take i ++ x :: ps.drop i) (cs.take (i * size) ++ vs ++ cs.drop (i * size)) := by
  rw [List.append_assoc]
  exact Kd.reps_append (Kd.reps_take h hi) (Reps.front hx hl (Kd.reps_drop h) rfl)
theorem kr_R {w0 w : World} {base g n cap : Nat} {row : Array Value} {ys : List S29} {inner : List Value} (hbg : base ≤ g) (hg : w.heap[g]? = some (.cells row 29 (0, 0))) (hn : ys.length = n) (hnc : n ≤ cap) (hcm : cap ≤ maxLen) (hrs : row.size = cap * 5) (htk : row.toList.take (n * 5) = inner)
    (hR : Reps (k29.K w0) 5 ys inner) : Kd.R (kr w0) 29 w base (fun _ => True) (.slice (some ⟨g, 0, none⟩) n cap) ys := by
  subst hn
  exact ⟨fun _ _ => trivial, inner, ⟨hR.1, .inr ⟨g, cap, row, rfl, hbg, hg, hnc, hcm, hrs, htk⟩⟩, hR⟩
set_option maxHeartbeats 1000000 in
theorem insert_calls (base : Nat) (A : Option Addr) (cap : Nat) (xs : List S29) (x : S29) (i : Nat) (vb : Nat) (cs : List Value) (w0 w : World) (hR : Kd.R (kr w0) 29 w base (fun _ => True) (.slice A xs.length cap) xs) (hbase : base ≤ w.heap.size) (hi : i ≤ xs.length) (hlim : xs.length ≤ 1000000) (hK : k29.K w0 x cs) (hvb : ∀ k, (Value.slice A xs.length cap).ownBlock = some k → vb ≠ k)
    (hv : w.heap[vb]? = some (.cells cs.toArray 29 (0, 0))) :
    Calls Try.prog 35 #[.slice A xs.length cap, .int .i64 (i : Int), .slice (some ⟨vb, 0, none⟩) 1 1] w fun e w' => ∃ v, e = .returned v ∧ Kd.R (kr w0) 29 w' base (fun _ => True) v (xs.take i ++ x :: xs.drop i) ∧ Below base w w' := by
  rcases Nat.eq_or_lt_of_le hi with rfl | hlt
  · rw [List.take_length, List.drop_length]
    exact insert_end base A cap xs x vb cs w0 w hR hbase hlim hK hv
  · obtain ⟨h0, inner, ho, hr⟩ := hR
    obtain ⟨hil, hnil | ⟨g, cap', cur, he, hbg, hg, hnc, hcm, hcs, htk⟩⟩ := ho
    · omega
    · injection he with e1 e2 e3
      subst e1 e3
      have hgvb : vb ≠ g := hvb g (by simp [Value.ownBlock])
      have hl5 : cs.length = 5 := k29.K_len hK
      have h1v : ∀ v ∈ cs, v.oneCell' = true := k29.K_one hK
      have h1c : ∀ v ∈ cur.toList.take (xs.length * 5), v.oneCell' = true := fun v hv => Kd.reps_one hr (by show 0 < 5; omega) (fun p c hp => k29.K_one hp) v (htk ▸ hv)
      have hR5 : Reps (k29.K w0) 5 (xs.take i ++ x :: xs.drop i) (inner.take (i * 5) ++ cs ++ inner.drop (i * 5)) := reps_insert (R := k29.K w0) hr hi hK hl5
      have hlen : (xs.take i ++ x :: xs.drop i).length = xs.length + 1 := by rw [List.length_append, List.length_take, List.length_cons, List.length_drop]; omega
      have hil' : inner.length = xs.length * 5 := hil
      have htk' : cur.toList.take (xs.length * 5) = inner := htk
      have hcs' : cur.size = cap * 5 := hcs
      have hcl : cur.toList.length = cap * 5 := by rw [Array.length_toList]; exact hcs'
      have hm : (maxLen : Nat) = 9223372036854775807 := rfl
      have htake : cur.toList.take (i * 5) = inner.take (i * 5) := by rw [← htk', List.take_take, Nat.min_eq_left (by omega)]
      by_cases hroom : xs.length + 1 ≤ cap
      · refine (insert_shift g xs.length cap i vb cur cs w hlt hroom (by omega) hgvb hg hcs' hv hl5 h1c h1v).mono ?_
        rintro e_ w' ⟨rfl, hg', hG⟩
        refine ⟨_, rfl, kr_R hbg hg' hlen hroom hcm ?_ ?_ hR5, ⟨hG.os, hG.tape, hG.output, hG.size, fun k hk => hG.block k (by omega) (fun e => by injection e with e; omega)⟩⟩
        · rw [List.size_toArray]
          simp only [List.length_append, List.length_take, List.length_drop, hcl, hl5]
          omega
        · rw [htk', htake, List.take_left' (by simp only [List.length_append, List.length_take, List.length_drop, hil', hl5]; omega)]
      · refine (insert_grow g xs.length cap i vb cur cs w hlt hnc (by omega) (by omega) hgvb hg hcs' hv hl5 h1c h1v).mono ?_
        rintro e_ w' ⟨G, row, rfl, hG1, hG2, hg', hrs, hrt, hB⟩
        exact ⟨_, rfl, kr_R hbase hg' hlen hG1 hG2 hrs (by rw [hrt, htk', htake]) hR5, Below.mono hB hbase⟩
end Go.Proofs.Ytkomcddnfjbifaa.Q
