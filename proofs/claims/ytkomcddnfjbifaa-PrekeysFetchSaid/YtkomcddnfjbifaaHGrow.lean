/- slices.Insert of one shelf where the row has no room.
   Conditions: the place lies in the row. -/
import Derived.Test.YtkomcddnfjbifaaHInsert
namespace Go.Proofs.Ytkomcddnfjbifaa.Q
open Go.RowKit Go.Proofs.YtkomcddnfjbifaaW.PrintWords Go.Proofs.YtkomcddnfjbifaaW.PrintLast Go.Proofs.YtkomcddnfjbifaaW.PrintMore
set_option linter.unusedVariables false
set_option linter.unusedSimpArgs false

set_option maxHeartbeats 4000000 in
set_option maxRecDepth 100000 in
theorem insert_grow (g n cap i vb : Nat) (cur : Array Value) (vs : List Value) (w : World) (hi : i < n) (hnc : n ≤ cap) (hroom : cap < n + 1) (hbig : (n + 1) * 72 ≤ 140737488355328) (hvb : vb ≠ g) (hg : w.heap[g]? = some (.cells cur 29 (0, 0))) (hcs : cur.size = cap * 5)
    (hv : w.heap[vb]? = some (.cells vs.toArray 29 (0, 0))) (hvl : vs.length = 5) (h1c : ∀ v ∈ cur.toList.take (n * 5), v.oneCell' = true) (h1v : ∀ v ∈ vs, v.oneCell' = true) :
    Calls Try.prog 35 #[.slice (some ⟨g, 0, none⟩) n cap, .int .i64 i, .slice (some ⟨vb, 0, none⟩) 1 1] w fun e w' =>
      ∃ G row, e = .returned (.slice (some ⟨w.heap.size, 0, none⟩) (n + 1) G) ∧ n + 1 ≤ G ∧ G ≤ maxLen ∧ w'.heap[w.heap.size]? = some (.cells row 29 (0, 0)) ∧ row.size = G * 5 ∧ row.toList.take ((n + 1) * 5) = cur.toList.take (i * 5) ++ vs ++ (cur.toList.take (n * 5)).drop (i * 5) ∧ Below w.heap.size w w' := by
  have mixed : Try.prog.follows Departure.mixedOrders = true := by kernel_rfl
  obtain ⟨i0, hi0, hz0, hzs, hzb⟩ := info_parts info29
  have hz2 : ¬ ((i : Int) = (n : Int)) := by omega
  have hz3 : (cap : Int) < (n : Int) + 1 := by omega
  have hsz : (Try.prog.info? 29).map (·.size) = some 5 := by rw [hi0]; simp [hzs]
  have hgw : g < w.heap.size := (Array.getElem?_eq_some_iff.1 hg).1
  have hvw : vb < w.heap.size := (Array.getElem?_eq_some_iff.1 hv).1
  have hkk : (n : Int) + 1 - (i : Int) = ((n + 1 - i : Nat) : Int) := by omega
  have hik : i + (n + 1 - i) = n + 1 := by omega
  have hcl : cur.toList.length = cap * 5 := by rw [Array.length_toList]; exact hcs
  have hold : (Builtin.firstCells i0.size i (.slice (some ⟨g, 0, none⟩) i cap)).run Try.prog w.drew = .ok (cur.toList.take (i * 5)).toArray w.drew := by
    rw [hzs]
    exact run_firstCells_some (w := w.drew) 5 i ⟨g, 0, none⟩ i cap (cur.toList.take (i * 5)) (by rw [List.length_take, hcl]; omega) (fun j v hj => by
      rw [Addr.add_lit, show w.drew.cell? ⟨g, 0 + j, none⟩ = w.cell? ⟨g, 0 + j, none⟩ from rfl, blk_cell hg]
      rw [List.getElem?_take] at hj
      split at hj
      · rw [Nat.zero_add, ← hj, Array.getElem?_toList]
      · cases hj)
  obtain ⟨G, hG⟩ : ∃ G, G = grownCap w (n + 1) cap 29 := ⟨_, rfl⟩
  obtain ⟨Z, hZ⟩ : ∃ Z, Z = (Value.agg #[(.int .u64 0), (.string ⟨#[]⟩), (.int .u64 0), (.string ⟨#[]⟩), (.slice none 0 0)]).cells := ⟨_, rfl⟩
  have hZs : Z.size = 5 := by rw [hZ]; rfl
  obtain ⟨ROW, hROW⟩ : ∃ ROW : Array Value, ROW = (cur.toList.take (i * 5)).toArray ++ Builtin.zeroCells Z (n + 1 - i) ++ Builtin.zeroCells Z (G - (n + 1)) := ⟨_, rfl⟩
  have hrz : ∀ ty, (Builtin.append_ #[22, 3] ty #[.slice (some ⟨g, 0, none⟩) i cap, .int .i64 ((n : Int) + 1 - (i : Int))]).run Try.prog w =
      .ok (.slice (some ⟨w.heap.size, 0, none⟩) (n + 1) G) (w.drew.alloc (.cells ROW 29)) := fun ty => by
    have h := Lib.run_append_grow_zeros w 22 3 ty 29 i0 _ .i64 .i64 Try.underlying22 Try.underlying3 hi0 hz0 (some ⟨g, 0, none⟩) i cap (cur.toList.take (i * 5)) hold (n + 1 - i) (by omega) (by omega) (by omega) (by omega) (by rw [hzb]; omega) (by rw [hzb, hik]; exact growslice_fits hroom hbig)
    rw [hik] at h
    rw [hkk, hROW, hG, hZ]
    exact h
  have hGn : n + 1 ≤ G := by rw [hG]; exact grownCap_ge w _ _ _
  have hGm : G ≤ maxLen := by rw [hG]; exact grownCap_le_maxLen w (n + 1) cap 29 (by unfold maxLen; omega)
  have hG63 : G ≤ 9223372036854775807 := hGm
  have hRs : ROW.size = G * 5 := by
    rw [hROW, Array.size_append, Array.size_append, size_zeroCells, size_zeroCells, hZs, List.size_toArray, List.length_take, hcl]
    omega
  have hRt : ROW.toList.take (i * 5) = cur.toList.take (i * 5) := by
    rw [hROW, Array.append_assoc, Array.toList_append, List.take_append_of_le_length (by rw [List.length_take, hcl]; omega), List.take_take, Nat.min_self]
  have hRl : ROW.toList.length = G * 5 := by rw [Array.length_toList]; exact hRs
  obtain ⟨W1, hW1⟩ : ∃ W1, W1 = w.drew.alloc (.cells ROW 29) := ⟨_, rfl⟩
  rw [← hW1] at hrz
  have hb1 : Below w.heap.size w W1 := by rw [hW1]; exact below_alloc (below_drew (Below.refl _ _)) _
  have hgN : W1.heap[w.heap.size]? = some (.cells ROW 29 (0, 0)) := by rw [hW1]; exact heap_alloc_new w.drew _
  obtain ⟨N, hN⟩ : ∃ N, N = w.heap.size := ⟨_, rfl⟩
  have hg1 := (hb1.block g hgw).trans hg
  have hv1 := (hb1.block vb hvw).trans hv
  have hl1 : ((cur.toList.take (n * 5)).drop (i * 5)).length = (n - i) * 5 := by rw [List.length_drop, List.length_take, hcl]; omega
  have hm1 : Nat.min 1 (n + 1 - i) = 1 := Nat.min_eq_left (by omega)
  have hm2 : Nat.min (n - i) (n + 1 - (i + 1)) = n - i := (Nat.min_eq_left (by omega))
  obtain ⟨R1, hR1⟩ : ∃ R1, R1 = (ROW.toList.take (i * 5) ++ vs ++ ROW.toList.drop (i * 5 + vs.length)) := ⟨_, rfl⟩
  have hR1l : R1.length = G * 5 := by rw [hR1]; simp only [List.length_append, List.length_take, List.length_drop, hRl, hvl]; omega
  obtain ⟨cs1, hcs1⟩ : ∃ cs1, cs1 = (cur.toList.take (n * 5)).drop (i * 5) := ⟨_, rfl⟩
  have hcpA : ∀ W : World, W.heap = W1.heap → ∀ ty dc, (Builtin.copy_ #[22, 22] ty #[.slice (some ⟨N, i * 5, none⟩) (n + 1 - i) dc, .slice (some ⟨vb, 0, none⟩) 1 1]).run Try.prog W = .ok (goInt ((1 : Nat) : Int)) (W.setRow N R1.toArray) := fun W hW ty dc => by
    have h := run_copy_wide (P := Try.prog) W 22 22 ty 29 5 N (i * 5) (n + 1 - i) dc ⟨vb, 0, none⟩ 1 1 ROW 29 vs Try.underlying22 hsz (by rw [hW, hN]; exact hgN) (by rw [hvl, hm1])
      (fun j v hj => by
        rw [Addr.add_lit, blk_cell (by rw [hW]; exact hv1)]
        simpa using hj)
      (by rw [hvl, hRs]; omega) h1v
    rw [hm1, ← hR1] at h
    exact h
  obtain ⟨R2, hR2⟩ : ∃ R2, R2 = (R1.take ((i + 1) * 5) ++ cs1 ++ R1.drop ((i + 1) * 5 + cs1.length)) := ⟨_, rfl⟩
  have hcpB : ∀ W : World, W.heap = (W1.setRow N R1.toArray).heap → ∀ ty dc sc, (Builtin.copy_ #[22, 22] ty #[.slice (some ⟨N, (i + 1) * 5, none⟩) (n + 1 - (i + 1)) dc, .slice (some ⟨g, i * 5, none⟩) (n - i) sc]).run Try.prog W = .ok (goInt ((n - i : Nat) : Int)) (W.setRow N R2.toArray) := fun W hW ty dc sc => by
    have h := run_copy_wide (P := Try.prog) W 22 22 ty 29 5 N ((i + 1) * 5) (n + 1 - (i + 1)) dc ⟨g, i * 5, none⟩ (n - i) sc R1.toArray 29 cs1 Try.underlying22 hsz (by rw [hW, hN]; exact setRow_heap W1 _ ROW _ 29 (0, 0) hgN) (by rw [hcs1, hl1, hm2])
      (fun j v hj => by
        rw [Addr.add_lit, blk_cell (cs := cur) (by rw [hW, setRow_other _ _ _ _ (by omega)]; exact hg1)]
        rw [hcs1, List.getElem?_drop] at hj
        have hlt : i * 5 + j < n * 5 := by
          have := (List.getElem?_eq_some_iff.1 hj).1
          rw [List.length_take] at this
          omega
        rw [List.getElem?_take, if_pos hlt] at hj
        rw [← hj, Array.getElem?_toList])
      (by rw [hcs1, hl1, List.size_toArray, hR1l]; omega) (fun v hv => h1c v (List.mem_of_mem_drop (by rw [← hcs1]; exact hv)))
    rw [hm2] at h
    rw [hR2]
    exact h
  have hR2l : R2.length = G * 5 := by rw [hR2]; simp only [List.length_append, List.length_take, List.length_drop, hR1l, hcs1, hl1, hcl]; omega
  have hfin : R2.take ((n + 1) * 5) = cur.toList.take (i * 5) ++ vs ++ (cur.toList.take (n * 5)).drop (i * 5) := by
    have e1 : R1.take ((i + 1) * 5) = cur.toList.take (i * 5) ++ vs := by
      rw [hR1, hRt, List.take_left' (by rw [List.length_append, List.length_take, hcl, hvl]; omega)]
    rw [hR2, e1, ← hcs1, List.take_left' (by simp only [List.length_append, List.length_take, hcs1, hl1, hcl, hvl]; omega)]
  have hgi : ¬ (G = i) := by omega
  have hgim : ¬ (G = i + 1) := by omega
  have hci : ¬ (cap = i) := by omega
  have hw1 : IntKind.i64.wrap ((i : Int) + 1) = (i : Int) + 1 := by rw [IntKind.wrap_i64]; omega
  have hw2 : IntKind.i64.wrap ((n : Int) + 1) = (n : Int) + 1 := by rw [IntKind.wrap_i64]; omega
  have hb0 : (0 : Int) ≤ (i : Int) + 1 := by omega
  have hin : i ≤ n := by omega
  have htn : ((i : Int) + 1).toNat = i + 1 := by omega
  have hb3 : (i : Int) ≤ (n : Int) := by omega
  replace hfin := Lib.hid hfin
  replace hgN := Lib.hid hgN
  replace hb1 := Lib.hid hb1
  subst hN
  clear hkk hik hold hROW hG hRl hg hv hg1 hv1 h1c h1v hl1 hR2 hR1 hR1l hcl hcs hRt hZ
  subst hW1
  have hcpA0 := hcpA (w.alloc (.cells ROW 29)).drew rfl
  have hcpB0 := hcpB ((w.alloc (.cells ROW 29)).drew.setRow w.heap.size R1.toArray).drew rfl
  clear hcpA hcpB
  go_enter Try.func35, Try.ntmps35
  go_wp2_with (first
    | (at_builtin; refine Lib.wpList_append_run _ rfl _ _ _ _ rfl _ _ rfl rfl _ _ (hrz _) ?_)
    | (at_builtin; refine wpList_copy_runI _ rfl _ _ 22 22 rfl _ _ rfl rfl (hcpA0 _ _) ?_))
  go_region_law_o (refine step_copy_runI rfl _ _ 22 22 rfl (.slice (some ⟨w.heap.size, (i + 1) * 5, none⟩) (n + 1 - (i + 1)) (G - (i + 1))) (.slice (some ⟨g, i * 5, none⟩) (n - i) (cap - i)) (by simp [Act.eval, Act.put]) (by simp [Act.eval, Act.put]) (hcpB0 3 (G - (i + 1)) (cap - i)) ?_)
  go_wp2
  go_ret
  refine ⟨G, R2.toArray, rfl, hGn, hGm, ?_, by rw [List.size_toArray]; exact hR2l, hfin.out, ?_⟩
  · exact setRow_heap (((w.alloc (.cells ROW 29)).drew.setRow w.heap.size R1.toArray).drew) w.heap.size R1.toArray _ 29 (0, 0) (setRow_heap (w.alloc (.cells ROW 29)).drew w.heap.size ROW _ 29 (0, 0) hgN.out)
  · have hB1 : Below w.heap.size w (w.alloc (.cells ROW 29)).drew := below_drew (below_alloc (Below.refl _ _) _)
    have hB2 := hB1.grown (setRow_grown _ w.heap.size R1.toArray) hB1.size (fun k hk => by injection hk with hk; omega)
    exact (below_drew hB2).grown (setRow_grown _ w.heap.size R2.toArray) (below_drew hB2).size (fun k hk => by injection hk with hk; omega)
end Go.Proofs.Ytkomcddnfjbifaa.Q
