/- slices.Delete of one parcel, at a row of the call's own: the row without it.
   Conditions: the row is the call's own, the place lies in it. -/
import Derived.Test.YtganchnnfjdooaaHClone
namespace Go.Proofs.Ytganchnnfjdooaa.Q
open Go.RowKit Go.Proofs.YtganchnnfjdooaaW.PrintWords Go.Proofs.YtganchnnfjdooaaW.PrintLast Go.Proofs.YtganchnnfjdooaaW.PrintMore
set_option linter.unusedVariables false
set_option linter.unusedSimpArgs false

/-- What is stored behind the elements of a row of one's own leaves the row. -/
theorem R_beyond {α : Type} {d : Kd α} {e base g n c : Nat} {ok : Nat → Prop} {W : World} {xs : List α} (h : d.R e W base ok (.slice (some ⟨g, 0, none⟩) n c) xs) (o : Nat) (news : List Value) (ho : n * d.sz ≤ o) (hl : o + news.length ≤ c * d.sz) :
    d.R e (W.setCells g o news) base ok (.slice (some ⟨g, 0, none⟩) n c) xs ∧ W.grownBy (W.setCells g o news) (some g) := by
  obtain ⟨hn, hnc, _⟩ := Kd.R_reads' h
  subst hn
  obtain ⟨hok, inner, hown, hr⟩ := h
  rcases hown.2 with ⟨hv, _⟩ | ⟨g', cap', cur, hv, hb, hh, hnc', hcm, hcs, htake⟩
  · cases hv
  injection hv with ha _ hc
  injection ha with ha
  injection ha with hg
  subst hg; subst hc
  obtain ⟨cur', h3, h4, h5⟩ := setCells_row news o W cur hh (by omega)
  obtain ⟨s1, s2, s3, s4⟩ := setCells_same g news o W
  have hfar : ∀ k', k' ≠ g → (W.setCells g o news).heap[k']? = W.heap[k']? := fun k' hk' => setCells_far news _ k' hk'
  have hin : inner.length = xs.length * d.sz := hr.1
  have hmul := Nat.mul_le_mul_right d.sz hnc'
  refine ⟨⟨hok, inner, ⟨hown.1, .inr ⟨g, c, cur', rfl, hb, h3, hnc', hcm, by rw [h4, hcs], ?_⟩⟩, ?_⟩, ⟨s1, s2, s3, by rw [s4]; exact Nat.le_refl _, fun k' _ hk' => hfar k' (fun he => hk' (by rw [he]))⟩⟩
  · rw [h5, List.append_assoc, List.take_append_of_le_length (by rw [List.length_take, Array.length_toList]; show xs.length * d.sz ≤ min o cur.size; omega), List.take_take, Nat.min_eq_left ho]
    exact htake
  · exact hr.imp_ (fun p q hp => d.M_move (fun k' hk' => hfar k' (fun he => hk'.2 (by rw [he]; rfl))) hp)
theorem size27 : (Try.prog.info? 27).map (·.size) = some k27.sz := by kernel_rfl
theorem run_clear_row {W : World} {g n c o : Nat} {cur : Array Value} (hh : W.heap[g]? = some (.cells cur 27 (0, 0))) (A : Option Addr) (hA : A = some ⟨g, o, none⟩) (hfit : o + 5 ≤ cur.size) :
    (Builtin.clear_ #[22] 0 #[.slice A 1 c]).run Try.prog W = .ok (.tuple #[]) (W.setCells g o [.int .u64 0, .int .u64 0, .string ⟨#[]⟩, .int .i64 0, .int .u64 0]) := by
  subst hA
  have hc : ∀ j, j < 5 → (W.cell? ⟨g, o + 0 + j, none⟩).isSome = true := by
    intro j hj
    have : o + 0 + j < cur.size := by omega
    simp [World.cell?, hh]; omega
  have hf : ∀ j, j < 5 → W.frozen? ⟨g, o + 0 + j, none⟩ = false := by
    intro j hj
    simp [World.frozen?, hh]
  have hst := run_storeCells_cells (P := Try.prog) g o [.int .u64 0, .int .u64 0, .string ⟨#[]⟩, .int .i64 0, .int .u64 0] 0 W hc hf (by intro v hv; simp at hv; rcases hv with rfl | rfl | rfl | rfl <;> rfl)
  simp only [Nat.add_zero] at hst
  have hz : ∀ W, (zeroValue 27).run Try.prog W = .ok (.agg #[.int .u64 0, .int .u64 0, .string ⟨#[]⟩, .int .i64 0, .int .u64 0]) W := fun W => by kernel_rfl
  have hzc : (Builtin.zeroCells (Value.agg #[.int .u64 0, .int .u64 0, .string ⟨#[]⟩, .int .i64 0, .int .u64 0]).cells 1).toList = [.int .u64 0, .int .u64 0, .string ⟨#[]⟩, .int .i64 0, .int .u64 0] := by kernel_rfl
  simp [Builtin.clear_, run_underlying Try.underlying22, hz, hzc, hst]
set_option maxHeartbeats 1000000 in
set_option maxRecDepth 100000 in
theorem delete_calls (g c : Nat) (xs : List S27) (i : Int) (B : Nat) (ok : Nat → Prop) (W0 w : World) (ho : Kd.R k27 27 w W0.heap.size ok (.slice (some ⟨g, 0, none⟩) xs.length c) xs) (hb : Below W0.heap.size W0 w) (h0 : 0 ≤ i) (h1 : i < xs.length) (hB : B = W0.heap.size) :
    Calls Try.prog 20 #[.slice (some ⟨g, 0, none⟩) xs.length c, .int .i64 i, .int .i64 (i + 1)] w fun e w' => ∃ v, e = .returned v ∧ Kd.R k27 27 w' W0.heap.size ok v (xs.eraseIdx i.toNat) ∧ Below W0.heap.size W0 w' := by
  subst hB
  have hc : xs.length ≤ c := (Kd.R_reads' ho).2.1
  have hm : c ≤ 9223372036854775807 := by
    obtain ⟨_, inner, hown, hr⟩ := ho
    rcases hown.2 with ⟨hv, _⟩ | ⟨g', cap', cur, hv, hb, hh, hnc', hcm, hcs, htake⟩
    · cases hv
    · injection hv with _ _ hv
      subst hv
      exact hcm
  obtain ⟨i0, hi0, _, hsz, _⟩ := info_parts info27
  have k1 := cut_to (P := Try.prog) 22 27 .i64 Try.underlying22 hi0 (some ⟨g, 0, none⟩) xs.length c i h0 (by omega) hc
  have k2 := cut_from (P := Try.prog) 22 27 .i64 Try.underlying22 hi0 5 hsz (some ⟨g, 0, none⟩) xs.length c (i + 1) (by omega) (by omega)
  have hne : (i == i + 1) = false := beq_eq_false_iff_ne.2 (by omega)
  have hle : (i + 1 : Int) ≤ xs.length := by omega
  have HO := Aside0.mk ho
  have HB := Aside0.mk hb
  clear ho hb hi0 hsz
  go_enter Try.func20, Try.ntmps20
  go_wp2
  refine start_ (n := 8) (S := fun w' => True) (ds := []) #[false, false, false, false, false, false, false, false] (by kernel_rfl) rfl rfl trivial (fun hHeld => ?_)
  refine pure_ (i := 0) (N := some 20) (v := ?_) (a' := ?_) #[true, false, false, false, false, false, false, false] rfl rfl (by kernel_rfl) (fun _ _ _ h => h) (Or.inl ⟨by rfl, ?_⟩) ?_ ?_
  rotate_left
  · intro w'
    go_simp
    with_reducible rfl
  rotate_left
  · simp only [Act.put, List.setIfInBounds_toArray, List.set_cons_zero, List.set_cons_succ, i64_w, i32_w]
    rfl
  refine pure_ (i := 1) (N := some 21) (v := ?_) (a' := ?_) #[true, true, false, false, false, false, false, false] rfl rfl (by kernel_rfl) (fun _ _ _ h => h) (Or.inl ⟨by rfl, ?_⟩) ?_ ?_
  rotate_left
  · intro w'
    go_simp
    with_reducible rfl
  rotate_left
  · simp only [Act.put, List.setIfInBounds_toArray, List.set_cons_zero, List.set_cons_succ, i64_w, i32_w]
    rfl
  refine pure_ (i := 2) (N := some 22) (v := ?_) (a' := ?_) #[true, true, true, false, false, false, false, false] rfl rfl (by kernel_rfl) (fun _ _ _ h => h) (Or.inl ⟨by rfl, ?_⟩) ?_ ?_
  rotate_left
  · intro w'
    go_simp
    with_reducible rfl
  rotate_left
  · simp only [Act.put, List.setIfInBounds_toArray, List.set_cons_zero, List.set_cons_succ, i64_w, i32_w]
    rfl
  refine pure_ (i := 3) (N := some 23) (v := ?_) (a' := ?_) #[true, true, true, true, false, false, false, false] rfl rfl (by kernel_rfl) (fun _ _ _ h => h) (Or.inl ⟨by rfl, ?_⟩) ?_ ?_
  rotate_left
  · intro w'
    go_simp
    with_reducible rfl
  rotate_left
  · simp only [Act.put, List.setIfInBounds_toArray, List.set_cons_zero, List.set_cons_succ, i64_w, i32_w]
    rfl
  refine pure_ (i := 4) (N := some 24) (v := ?_) (a' := ?_) #[true, true, true, true, true, false, false, false] rfl rfl (by kernel_rfl) (fun _ _ _ h => h) (Or.inl ⟨by rfl, ?_⟩) ?_ ?_
  rotate_left
  · intro w'
    go_simp
    with_reducible rfl
  rotate_left
  · simp only [Act.put, List.setIfInBounds_toArray, List.set_cons_zero, List.set_cons_succ, i64_w, i32_w]
    rfl
  refine pure_ (i := 5) (N := some 25) (v := ?_) (a' := ?_) #[true, true, true, true, true, true, false, false] rfl rfl (by kernel_rfl) (fun _ _ _ h => h) (Or.inl ⟨by rfl, ?_⟩) ?_ ?_
  rotate_left
  · intro w'
    go_simp
    with_reducible rfl
  rotate_left
  · simp only [Act.put, List.setIfInBounds_toArray, List.set_cons_zero, List.set_cons_succ, i64_w, i32_w]
    rfl
  refine one_ (i := 6) (N := some 26) #[true, true, true, true, true, true, true, false] rfl rfl (by kernel_rfl) (by decide) (fun K hK => ?_)
  refine Kd.R_delete_step k27 (w0 := W0) W0.heap.size (by rfl) (.tmp 22) (.tmp 25) 22 27 rfl Try.underlying22 size27 (g := g) (n := xs.length) (c := c) (k := i.toNat) (m := xs.length - (i + 1).toNat) (c2 := c - (i + 1).toNat) (A := if c = (i + 1).toNat then some ⟨g, 0, none⟩ else some ⟨g, (i + 1).toNat * 5, none⟩) (xs := xs) (ok := ok) (by rfl) (by rfl) (by rw [show (i + 1).toNat = i.toNat + 1 by omega]; simp [Addr.add, show k27.sz = 5 from rfl]) (by omega) (Kd.R_drew HO.out) (by omega) (below_drew HB.out) (below_drew HB.out).size ?_
  intro w5 h1_ h2_ h3_
  clear h3_
  replace HO := Aside0.mk h1_
  replace HB := Aside0.mk h2_
  clear h1_ h2_
  refine hK.out _ _ trivial (fun hHeld => ?_)
  clear hK K
  refine norm_ (a' := ?_) ?_ ?_
  rotate_left
  · show Act.put _ (some 26) _ = _
    simp only [Act.put, List.setIfInBounds_toArray, List.set_cons_zero, List.set_cons_succ, i64_w, i32_w]
    rfl
  refine pure_ (i := 7) (N := some 0) (v := ?_) (a' := ?_) #[true, true, true, true, true, true, true, true] rfl rfl (by kernel_rfl) (fun _ _ _ h => h) (Or.inl ⟨by rfl, ?_⟩) ?_ ?_
  rotate_left
  · intro w'
    go_simp
    with_reducible rfl
  rotate_left
  · simp only [Act.put, List.setIfInBounds_toArray, List.set_cons_zero, List.set_cons_succ, i64_w, i32_w]
    rfl
  refine done_ (by kernel_rfl) ?_
  clear k1 k2
  have hdn := HO.out
  have hlen : (xs.eraseIdx i.toNat).length = xs.length - 1 := by rw [List.length_eraseIdx]; simp; omega
  obtain ⟨hg0, cur, hh, hcur⟩ : W0.heap.size ≤ g ∧ ∃ cur, w5.heap[g]? = some (.cells cur 27 (0, 0)) ∧ cur.size = c * 5 := by
    obtain ⟨_, inner, hown, hr⟩ := hdn
    rcases hown.2 with ⟨hv, _⟩ | ⟨g', cap', cur, hv, hb, hh, hnc', hcm, hcs, htake⟩
    · cases hv
    · injection hv with hv _ hv'
      injection hv with hv
      injection hv with hv
      subst hv; subst hv'
      exact ⟨hb, cur, hh, hcs⟩
  have hclr : ∀ c', (Builtin.clear_ #[22] 0 #[.slice (some ⟨g, (xs.length - 1) * 5, none⟩) (xs.length - (xs.length - 1)) c']).run Try.prog w5 = .ok (.tuple #[]) (w5.setCells g ((xs.length - 1) * 5) [.int .u64 0, .int .u64 0, .string ⟨#[]⟩, .int .i64 0, .int .u64 0]) := by
    intro c'
    rw [show xs.length - (xs.length - 1) = 1 by omega]
    exact run_clear_row (n := 0) hh _ rfl (by omega)
  have hfin := R_beyond (W := w5) (d := k27) (n := xs.length - 1) hdn ((xs.length - 1) * 5) [.int .u64 0, .int .u64 0, .string ⟨#[]⟩, .int .i64 0, .int .u64 0] (Nat.le_refl _) (by show (xs.length - 1) * 5 + 5 ≤ c * 5; omega)
  have hbel : Below W0.heap.size w5 (w5.setCells g ((xs.length - 1) * 5) [.int .u64 0, .int .u64 0, .string ⟨#[]⟩, .int .i64 0, .int .u64 0]) := by
    obtain ⟨s1, s2, s3, s4⟩ := setCells_same g [.int .u64 0, .int .u64 0, .string ⟨#[]⟩, .int .i64 0, .int .u64 0] ((xs.length - 1) * 5) w5
    exact ⟨s1, s2, s3, by rw [s4]; exact Nat.le_refl _, fun k hk => setCells_far _ _ k (by omega)⟩
  generalize hw6 : w5.setCells g ((xs.length - 1) * 5) [.int .u64 0, .int .u64 0, .string ⟨#[]⟩, .int .i64 0, .int .u64 0] = w6 at hclr hfin hbel
  have hcc : c = (i + 1).toNat ∨ ¬ c = (i + 1).toNat := by omega
  rcases hcc with hcc | hcc
  · subst hcc
    go_wp2
    go_ret
    exact ⟨_, rfl, hfin.1, HB.out.trans hbel⟩
  · go_wp2
    go_ret
    exact ⟨_, rfl, hfin.1, HB.out.trans hbel⟩
end Go.Proofs.Ytganchnnfjdooaa.Q
