/- few of shelves whose points are read in an older world.
   Conditions: the list is read as shelves. -/
import Derived.Test.YtkomcddnfjbifaaHFew
namespace Go.Proofs.Ytkomcddnfjbifaa.Q
open Go.RowKit Go.Proofs.YtkomcddnfjbifaaW.PrintWords Go.Proofs.YtkomcddnfjbifaaW.PrintLast Go.Proofs.YtkomcddnfjbifaaW.PrintMore
set_option linter.unusedVariables false
set_option linter.unusedSimpArgs false

attribute [local go_sem] max2_int min2_int max_two min_two max_three min_three max_four min_four
set_option maxHeartbeats 4000000 in
set_option maxRecDepth 100000 in
theorem few_at (A0 : Option Addr) (c0 : Nat) (l0 : List S29) (w0 w : World) (hr0 : Kd.C (kr w0) w A0 l0.length l0) (hc0 : l0.length ≤ c0) :
    Calls Try.prog 8 #[.slice A0 l0.length c0] w fun e w' => ∃ v, e = .returned v ∧ Kd.R (kr w0) 29 w' w.heap.size (fun _ => True) v (fewP l0) ∧ Below w.heap.size w w' := by
  obtain ⟨n, hn⟩ : ∃ n, min l0.length 10 = n := ⟨_, rfl⟩
  have hmin : (if (10 : Int) < (l0.length : Int) then (10 : Int) else (l0.length : Int)) = (n : Int) := by split <;> omega
  obtain ⟨i0, hi0, _, hsz, _⟩ := info_parts info29
  have hcut := cut_to (P := Try.prog) 22 29 .i64 Try.underlying22 hi0 A0 l0.length c0 (n : Int) (by omega) (by omega) hc0
  rw [Int.toNat_natCast] at hcut
  have hfew : Hid ((l0.take n).map cutS = fewP l0) := Lib.hid (by
    unfold fewP
    rcases Nat.le_total l0.length 10 with h | h
    · rw [List.take_of_length_le (by omega), List.take_of_length_le h]
    · rw [show n = 10 by omega])
  have hn1 : n ≤ l0.length := by omega
  have hn2 : n ≤ 10 := by omega
  replace hn := Lib.hid hn
  clear hi0
  go_enter Try.func8, Try.ntmps8
  go_wp2
  go_loopw [3, 12] (fun va vi wr => ∃ i : Nat, i ≤ n ∧ vi = .int .i64 (i : Int) ∧ Kd.R (kr w0) 29 wr w.heap.size (fun _ => True) va ((l0.take i).map cutS) ∧ Below w.heap.size w wr) (fun _ vi _ => n - (intOf vi).toNat)
  case atStart => exact ⟨0, by omega, rfl, Kd.R_nil _ _ _ _ _, Below.refl _ _⟩
  case round =>
    obtain ⟨i, hi, rfl, hR, hB⟩ := hrel
    by_cases hlt : (i : Int) < n
    · obtain ⟨ad, A4, c4, eA, q0, q1, q2, q3, q4, hc4, hC4⟩ := kr_atC (w0 := w0) (Kd.C_below hr0 hB) i (by omega)
      subst eA
      have hsn := Lib.hid (few_snoc l0 i (by omega))
      generalize rd_T29 l0 (i : Int) = x at q0 q1 q2 q3 q4 hsn hC4 hc4
      obtain ⟨m, hm⟩ : ∃ m, min x.f3.length 22 = m := ⟨_, rfl⟩
      have hm1 : m ≤ x.f3.length := by omega
      have hm3 : (x.f3.take 22).length = m := by rw [List.length_take, Nat.min_comm]; exact hm
      have hmt : Hid (k26.C w0 A4 (x.f3.take 22).length (x.f3.take 22)) := Lib.hid (by
        rcases Nat.le_total x.f3.length 22 with h | h
        · rw [List.take_of_length_le h]; exact hC4
        · exact Kd.C_take hC4 (by omega))
      replace hsn := Aside0.mk hsn
      have hlen9 : ((l0.take i).map cutS).length ≤ 10 := by rw [List.length_map, List.length_take]; omega
      obtain ⟨w1, hw1⟩ : ∃ w1, wr.alloc (.cells #[.int .u64 0, .string ⟨#[]⟩, .int .u64 0, .string ⟨#[]⟩, .slice none 0 0] 29 (0, 0)) = w1 := ⟨_, rfl⟩
      have hb1 : Below wr.heap.size wr w1 := by rw [← hw1]; exact below_alloc (Below.refl _ _) _
      have hs1 : w1.heap.size = wr.heap.size + 1 := by rw [← hw1]; simp
      have hK1 : w1.heap[wr.heap.size]? = some (.cells #[.int .u64 0, .string ⟨#[]⟩, .int .u64 0, .string ⟨#[]⟩, .slice none 0 0] 29 (0, 0)) := by rw [← hw1]; exact heap_alloc_new _ _
      go_wp2_with ((with_reducible refine gate_store (t := 29) (p := 5) rfl ?_); go_loud (refine wpList_storeBox rfl rfl 29 (.tmp 5) (.tmp 15) rfl (sv x A4 c4) [.int .u64 x.f0, .string x.f1, .int .u64 x.f2.f0, .string x.f2.f1, .slice A4 x.f3.length c4] rfl rfl rfl (by kernel_rfl) (by simp [Value.oneCell']) hK1 rfl ?_); intro w2 hK2 hg2 hs2; clear q0 q1 q2 q3 q4 hw1 hK1; have z4 : w2.cell? ⟨wr.heap.size, 4, none⟩ = some (.slice A4 x.f3.length c4) := (blk_cell hK2 4).trans rfl)
      have hpc := points_own A4 c4 x.f3 m w2 hm hc4
      have hB2 : Below wr.heap.size wr w2 := pw_below_grown hb1 _ hb1.size hg2 (fun k hk => by cases hk; exact Nat.le_refl _)
      refine hpc.mono ?_; rintro e_ w3 ⟨rfl, hb3⟩
      have hB3 := below_step hB2 hb3
      have hK3 := (hb3.block _ (blk_lt hK2)).trans hK2
      clear z4 hpc hb3 hK2 hg2 hB2
      have z4 : w3.cell? ⟨wr.heap.size, 4, none⟩ = some (.slice A4 x.f3.length c4) := (blk_cell hK3 4).trans rfl
      have f4 := blk_frozen hK3 4
      have hK4 := blk_put hK3 4 (.slice A4 m c4) rfl
      have hg4 : w3.grownBy (w3.setCell ⟨wr.heap.size, 4, none⟩ (.slice A4 m c4)) (some wr.heap.size) := ⟨rfl, rfl, rfl, by simp [World.setCell], fun k _ hk => Below.heap_setCell w3 _ _ k (fun e => hk (by rw [e]))⟩
      generalize hw4 : w3.setCell ⟨wr.heap.size, 4, none⟩ (.slice A4 m c4) = w4 at hK4 hg4
      have y0 : w4.cell? ⟨wr.heap.size, 0, none⟩ = some (.int .u64 x.f0) := (blk_cell hK4 0).trans rfl
      have y1 : w4.cell? ⟨wr.heap.size, 1, none⟩ = some (.string x.f1) := (blk_cell hK4 1).trans rfl
      have y2 : w4.cell? ⟨wr.heap.size, 2, none⟩ = some (.int .u64 x.f2.f0) := (blk_cell hK4 2).trans rfl
      have y3 : w4.cell? ⟨wr.heap.size, 3, none⟩ = some (.string x.f2.f1) := (blk_cell hK4 3).trans rfl
      have y4 : w4.cell? ⟨wr.heap.size, 4, none⟩ = some (.slice A4 m c4) := (blk_cell hK4 4).trans rfl
      have hB4 : Below wr.heap.size wr w4 := pw_below_grown hB3 _ hB3.size hg4 (fun k hk => by cases hk; exact Nat.le_refl _)
      have hKx : k29.K w0 (cutS x) [.int .u64 x.f0, .string x.f1, .int .u64 x.f2.f0, .string x.f2.f1, .slice A4 m c4] := by
        have := k29_mk w0 (cutS x) (A4 := A4) (c4 := c4) (by show (x.f3.take 22).length ≤ c4; omega) hmt.out
        rw [show (cutS x).f3.length = m from hm3] at this
        exact this
      obtain ⟨w5, hw5⟩ : ∃ w5, w4.alloc (.cells #[.int .u64 x.f0, .string x.f1, .int .u64 x.f2.f0, .string x.f2.f1, .slice A4 m c4] 29 (0, 0)) = w5 := ⟨_, rfl⟩
      have hb5 : Below w4.heap.size w4 w5 := by rw [← hw5]; exact below_alloc (Below.refl _ _) _
      have hK5 : w5.heap[w4.heap.size]? = some (.cells #[.int .u64 x.f0, .string x.f1, .int .u64 x.f2.f0, .string x.f2.f1, .slice A4 m c4] 29 (0, 0)) := by rw [← hw5]; exact heap_alloc_new _ _
      have hC5 := Aside0.mk (one_C hKx hK5)
      have hB5 := below_step hB4 hb5
      have HR := Aside0.mk (Kd.R_below hR hB5)
      have HB := Aside0.mk (below_step hB hB5)
      have hsz5 := HB.out.size
      clear hK5 hKx hB4 hb5 hB5 hB3 hK4 hK3 hg4 hR hm3 hC4 hr0 hb1
      go_wp2_with ((with_reducible refine gate_builtin (b := .append) (xs := #[.tmp 20, .tmp 22]) rfl ?_); at_builtin; refine Kd.R_append_rows (kr w0) (w0 := w) w.heap.size rfl (.tmp 20) (.tmp 22) 22 29 (.agg #[(.int .u64 0), (.string ⟨#[]⟩), (.int .u64 0), (.string ⟨#[]⟩), (.slice none 0 0)]) 72 rfl Try.underlying22 info29 rfl (by show 0 < 5; omega) (by omega) _ ((l0.take i).map cutS) [cutS x] _ _ _ (fun _ => True) (fun _ => False) rfl rfl HR.out hC5.out (fun _ _ h => h) (fun _ h => h.elim) (fun _ _ => trivial) HB.out hsz5 (by omega) ?_; intro v6 w6 ho hb hg hat; clear hg hat)
      go_roundw
      case rel => exact ⟨i + 1, by omega, by go_num, by rw [hsn.out.out]; exact ho, hb⟩
      case measure => simp [intOf]; omega
    · obtain rfl : i = n := by omega
      go_wp2
      go_ret
      exact ⟨_, rfl, by rw [← hfew.out]; exact hR, hB⟩
end Go.Proofs.Ytkomcddnfjbifaa.Q
