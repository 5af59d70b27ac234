/- slices.Insert of one box into a row of one's own: in place, into a new row, at the end.
   Conditions: at most 1000000 boxes. -/
import Derived.Test.YtbmfcikjhnnnbaaHField
import Derived.Shelf.RegionOpenPlain
import Derived.Shelf.Spec.SlicesInsertGrow
namespace Go.Proofs.Ytbmfcikjhnnnbaa.Q
open Go.RowKit Go.Proofs.YtbmfcikjhnnnbaaW.PrintWords Go.Proofs.YtbmfcikjhnnnbaaW.PrintLast Go.Proofs.YtbmfcikjhnnnbaaW.PrintMore
set_option linter.unusedVariables false
set_option linter.unusedSimpArgs false

/-- copy of whole elements into a plain row. -/
theorem run_copy_wide {P : Program} (w : World) (dT sT ty elem : TypeId) (size g o dLen dCap : Nat) (a : Addr) (sLen sCap : Nat) (cur : Array Value) (t : TypeId) (cs : List Value)
    (hu : P.underlying dT = some (.slice elem)) (hs : (P.info? elem).map (·.size) = some size)
    (hg : w.heap[g]? = some (.cells cur t (0, 0))) (hn : cs.length = Nat.min sLen dLen * size)
    (hsrc : ∀ j v, cs[j]? = some v → w.cell? (a.add j) = some v) (hfit : o + cs.length ≤ cur.size) (h1 : ∀ v ∈ cs, v.oneCell' = true) :
    (Builtin.copy_ #[dT, sT] ty #[.slice (some ⟨g, o, none⟩) dLen dCap, .slice (some a) sLen sCap]).run P w =
      .ok (goInt (Nat.min sLen dLen)) (w.setRow g (cur.toList.take o ++ cs ++ cur.toList.drop (o + cs.length)).toArray) := by
  have hl := run_loadCells_list (P := P) w a cs hsrc
  have hst := run_storeCells_at P g o t cs 0 cur w hg (by simpa using hfit) h1
  cases hq : P.info? elem with
  | none => simp [hq] at hs
  | some i =>
    have hi : i.size = size := by simpa [hq] using hs
    simp [Builtin.copy_, run_underlying hu, Builtin.lenOf, Builtin.firstCells, sizeOf, typeInfo, hq, hi, ← hn, hl, hst]
theorem setRow_grown (w : World) (g : Nat) (cs : Array Value) : w.grownBy (w.setRow g cs) (some g) := ⟨rfl, rfl, rfl, by simp [World.setRow], fun k _ hk => setRow_other w g k cs (fun e => hk (by rw [e]))⟩
set_option maxHeartbeats 4000000 in
set_option maxRecDepth 100000 in
theorem insert_shift (g n cap i vb : Nat) (cur : Array Value) (vs : List Value) (w : World) (hi : i < n) (hroom : n + 1 ≤ cap) (hc63 : cap ≤ 9223372036854775807) (hvb : vb ≠ g) (hg : w.heap[g]? = some (.cells cur 57 (0, 0))) (hcs : cur.size = cap * 2)
    (hv : w.heap[vb]? = some (.cells vs.toArray 57 (0, 0))) (hvl : vs.length = 2) (h1c : ∀ v ∈ cur.toList.take (n * 2), v.oneCell' = true) (h1v : ∀ v ∈ vs, v.oneCell' = true) :
    Calls Try.prog 30 #[.slice (some ⟨g, 0, none⟩) n cap, .int .i64 i, .slice (some ⟨vb, 0, none⟩) 1 1] w fun e w' =>
      e = .returned (.slice (some ⟨g, 0, none⟩) (n + 1) cap) ∧ w'.heap[g]? = some (.cells (cur.toList.take (i * 2) ++ vs ++ (cur.toList.take (n * 2)).drop (i * 2) ++ cur.toList.drop ((n + 1) * 2)).toArray 57 (0, 0)) ∧ w.grownBy w' (some g) := by
  have mixed : Try.prog.follows Departure.mixedOrders = true := by kernel_rfl
  have hz2 : ¬ ((i : Int) = (n : Int)) := by omega
  have hsz : (Try.prog.info? 57).map (·.size) = some 2 := by
    obtain ⟨i0, hi0, h0, h1, h2⟩ := info_parts info57
    rw [hi0]; simp [h1]
  have hov : ∀ lb cb, (callFunc 48 #[.slice (some ⟨vb, 0, none⟩) 1 1, .slice (some ⟨g, (i + 1) * 2, none⟩) lb cb]).run Try.prog w = .ok (.value (.bool false)) w := fun lb cb => by
    rw [run_callFunc_extern Try.func48 (by kernel_rfl) (by kernel_rfl) (by kernel_rfl) (e := Extern.SlicesOverlaps.overlaps #[22, 22] #[4]) (by kernel_rfl),
      Lib.run_overlaps_apart w 22 4 57 Try.underlying22 2 (fun W => Try.sizeOf57 W) ⟨vb, 0, none⟩ ⟨g, (i + 1) * 2, none⟩ 1 1 lb cb hvb 57 57 vs.length cur.size (by simp [World.shape?, hv]) (by simp [World.shape?, hg]) (by omega) (blk_frozen hv _) (blk_frozen hv _)]
    rfl
  obtain ⟨cs1, hcs1⟩ : ∃ cs1, cs1 = (cur.toList.take (n * 2)).drop (i * 2) := ⟨_, rfl⟩
  have hcl : cur.toList.length = cap * 2 := by rw [Array.length_toList]; exact hcs
  have hl1 : cs1.length = (n - i) * 2 := by rw [hcs1, List.length_drop, List.length_take, hcl]; omega
  have hw1 : IntKind.i64.wrap ((i : Int) + 1) = (i : Int) + 1 := by rw [IntKind.wrap_i64]; omega
  have hw2 : IntKind.i64.wrap ((n : Int) + 1) = (n : Int) + 1 := by rw [IntKind.wrap_i64]; omega
  have htn : ((i : Int) + 1).toNat = i + 1 := by omega
  have htm : ((n : Int) + 1).toNat = n + 1 := by omega
  have hb1 : (0 : Int) ≤ (i : Int) + 1 := by omega
  have hb2 : ¬ (cap = i + 1) := by omega
  have hb3 : (i : Int) ≤ (n : Int) + 1 := by omega
  have hb4 : ¬ (cap = i) := by omega
  have hb5 : i ≤ n := by omega
  have hno : ¬ ((cap : Int) < (n : Int) + 1) := by omega
  have hroom' : (n : Int) + 1 ≤ cap := by omega
  have hm1 : Nat.min (n + 1 - i) (n + 1 - (i + 1)) = n - i := (Nat.min_eq_right (by omega)).trans (by omega)
  have hm2 : Nat.min 1 (n + 1 - i) = 1 := Nat.min_eq_left (by omega)
  obtain ⟨R1, hR1⟩ : ∃ R1, R1 = (cur.toList.take ((i + 1) * 2) ++ cs1 ++ cur.toList.drop ((i + 1) * 2 + cs1.length)) := ⟨_, rfl⟩
  have hR1l : R1.length = cap * 2 := by rw [hR1]; simp only [List.length_append, List.length_take, List.length_drop, hcl, hl1]; omega
  have hcp1 : ∀ ty dc sc, (Builtin.copy_ #[22, 22] ty #[.slice (some ⟨g, (i + 1) * 2, none⟩) (n + 1 - (i + 1)) dc, .slice (some ⟨g, i * 2, none⟩) (n + 1 - i) sc]).run Try.prog w.drew = .ok (goInt ((n - i : Nat) : Int)) (w.drew.setRow g R1.toArray) := fun ty dc sc => by
    have h := run_copy_wide (P := Try.prog) w.drew 22 22 ty 57 2 g ((i + 1) * 2) (n + 1 - (i + 1)) dc ⟨g, i * 2, none⟩ (n + 1 - i) sc cur 57 cs1 Try.underlying22 hsz hg (by rw [hl1, hm1])
      (fun j v hj => by
        rw [Addr.add_lit, show w.drew.cell? ⟨g, i * 2 + j, none⟩ = w.cell? ⟨g, i * 2 + j, none⟩ from rfl, blk_cell hg]
        rw [hcs1, List.getElem?_drop] at hj
        have hlt : i * 2 + j < n * 2 := by
          have := (List.getElem?_eq_some_iff.1 hj).1
          rw [List.length_take] at this
          omega
        rw [List.getElem?_take, if_pos hlt] at hj
        rw [← hj, Array.getElem?_toList])
      (by rw [hl1, hcs]; omega) (fun v hv => h1c v (List.mem_of_mem_drop (by rw [← hcs1]; exact hv)))
    rw [hm1, ← hR1] at h
    exact h
  have hg1 : (w.drew.setRow g R1.toArray).heap[g]? = some (.cells R1.toArray 57 (0, 0)) := setRow_heap w.drew g cur R1.toArray 57 (0, 0) hg
  have hv1 : (w.drew.setRow g R1.toArray).heap[vb]? = some (.cells vs.toArray 57 (0, 0)) := (setRow_other w.drew g vb _ hvb).trans hv
  have hG1 : w.grownBy (w.drew.setRow g R1.toArray) (some g) := ⟨rfl, rfl, rfl, (setRow_grown w.drew g R1.toArray).size, fun k _ hk => setRow_other w.drew g k _ (fun e => hk (by rw [e]))⟩
  obtain ⟨W1, hW1⟩ : ∃ W1, w.drew.setRow g R1.toArray = W1 := ⟨_, rfl⟩
  rw [hW1] at hcp1 hg1 hv1 hG1
  obtain ⟨R2, hR2⟩ : ∃ R2, R2 = (R1.take (i * 2) ++ vs ++ R1.drop (i * 2 + vs.length)) := ⟨_, rfl⟩
  have hcp2 : ∀ ty dc, (Builtin.copy_ #[22, 22] ty #[.slice (some ⟨g, i * 2, none⟩) (n + 1 - i) dc, .slice (some ⟨vb, 0, none⟩) 1 1]).run Try.prog W1 = .ok (goInt ((1 : Nat) : Int)) (W1.setRow g R2.toArray) := fun ty dc => by
    have h := run_copy_wide (P := Try.prog) W1 22 22 ty 57 2 g (i * 2) (n + 1 - i) dc ⟨vb, 0, none⟩ 1 1 R1.toArray 57 vs Try.underlying22 hsz hg1 (by rw [hvl, hm2])
      (fun j v hj => by
        rw [Addr.add_lit, blk_cell hv1]
        simpa using hj)
      (by rw [hvl, List.size_toArray, hR1l]; omega) h1v
    rw [hm2] at h
    rw [hR2]
    exact h
  have hfin : R2 = cur.toList.take (i * 2) ++ vs ++ (cur.toList.take (n * 2)).drop (i * 2) ++ cur.toList.drop ((n + 1) * 2) := by
    have e1 : R1.take (i * 2) = cur.toList.take (i * 2) := by
      rw [hR1, List.append_assoc, List.take_append_of_le_length (by rw [List.length_take, hcl]; omega), List.take_take, Nat.min_eq_left (by omega)]
    have e2 : R1.drop (i * 2 + vs.length) = cs1 ++ cur.toList.drop ((n + 1) * 2) := by
      rw [hR1, List.append_assoc, List.drop_left' (by rw [List.length_take, hcl, hvl]; omega), hl1]
      congr 2
      omega
    rw [hR2, e1, e2, ← hcs1]
    simp only [List.append_assoc]
  replace hfin := Lib.hid hfin
  replace hg := Lib.hid hg
  replace hg1 := Lib.hid hg1
  clear hv hv1 hsz h1c h1v hR1 hR2 hl1 hcl hcs hR1l
  go_enter Try.func30, Try.ntmps30
  go_wp2_with (simp only [hov])
  go_region_law_o (refine step_copy_runI rfl _ _ 22 22 rfl (.slice (some ⟨g, (i + 1) * 2, none⟩) (n + 1 - (i + 1)) (cap - (i + 1))) (.slice (some ⟨g, i * 2, none⟩) (n + 1 - i) (cap - i)) (by simp [Act.eval, Act.put]) (by simp [Act.eval, Act.put]) (hcp1 3 (cap - (i + 1)) (cap - i)) ?_)
  go_wp2_with (at_builtin; refine wpList_copy_runI _ rfl _ _ 22 22 rfl _ _ rfl rfl (hcp2 _ _) ?_)
  go_ret
  refine ⟨rfl, ?_, ?_⟩
  · rw [← hfin.out]
    exact setRow_heap W1 g _ _ 57 (0, 0) hg1.out
  · exact hG1.trans (setRow_grown W1 g _)
set_option maxHeartbeats 4000000 in
set_option maxRecDepth 100000 in
theorem insert_grow (g n cap i vb : Nat) (cur : Array Value) (vs : List Value) (w : World) (hi : i < n) (hnc : n ≤ cap) (hroom : cap < n + 1) (hbig : (n + 1) * 32 ≤ 140737488355328) (hvb : vb ≠ g) (hg : w.heap[g]? = some (.cells cur 57 (0, 0))) (hcs : cur.size = cap * 2)
    (hv : w.heap[vb]? = some (.cells vs.toArray 57 (0, 0))) (hvl : vs.length = 2) (h1c : ∀ v ∈ cur.toList.take (n * 2), v.oneCell' = true) (h1v : ∀ v ∈ vs, v.oneCell' = true) :
    Calls Try.prog 30 #[.slice (some ⟨g, 0, none⟩) n cap, .int .i64 i, .slice (some ⟨vb, 0, none⟩) 1 1] w fun e w' =>
      ∃ G row, e = .returned (.slice (some ⟨w.heap.size, 0, none⟩) (n + 1) G) ∧ n + 1 ≤ G ∧ G ≤ maxLen ∧ w'.heap[w.heap.size]? = some (.cells row 57 (0, 0)) ∧ row.size = G * 2 ∧ row.toList.take ((n + 1) * 2) = cur.toList.take (i * 2) ++ vs ++ (cur.toList.take (n * 2)).drop (i * 2) ∧ Below w.heap.size w w' := by
  have mixed : Try.prog.follows Departure.mixedOrders = true := by kernel_rfl
  obtain ⟨i0, hi0, hz0, hzs, hzb⟩ := info_parts info57
  have hz2 : ¬ ((i : Int) = (n : Int)) := by omega
  have hz3 : (cap : Int) < (n : Int) + 1 := by omega
  have hsz : (Try.prog.info? 57).map (·.size) = some 2 := by rw [hi0]; simp [hzs]
  have hgw : g < w.heap.size := (Array.getElem?_eq_some_iff.1 hg).1
  have hvw : vb < w.heap.size := (Array.getElem?_eq_some_iff.1 hv).1
  have hkk : (n : Int) + 1 - (i : Int) = ((n + 1 - i : Nat) : Int) := by omega
  have hik : i + (n + 1 - i) = n + 1 := by omega
  have hcl : cur.toList.length = cap * 2 := by rw [Array.length_toList]; exact hcs
  have hold : (Builtin.firstCells i0.size i (.slice (some ⟨g, 0, none⟩) i cap)).run Try.prog w.drew = .ok (cur.toList.take (i * 2)).toArray w.drew := by
    rw [hzs]
    exact run_firstCells_some (w := w.drew) 2 i ⟨g, 0, none⟩ i cap (cur.toList.take (i * 2)) (by rw [List.length_take, hcl]; omega) (fun j v hj => by
      rw [Addr.add_lit, show w.drew.cell? ⟨g, 0 + j, none⟩ = w.cell? ⟨g, 0 + j, none⟩ from rfl, blk_cell hg]
      rw [List.getElem?_take] at hj
      split at hj
      · rw [Nat.zero_add, ← hj, Array.getElem?_toList]
      · cases hj)
  obtain ⟨G, hG⟩ : ∃ G, G = grownCap w (n + 1) cap 57 := ⟨_, rfl⟩
  obtain ⟨Z, hZ⟩ : ∃ Z, Z = (Value.agg #[(.int .u64 0), (.slice none 0 0)]).cells := ⟨_, rfl⟩
  have hZs : Z.size = 2 := by rw [hZ]; rfl
  obtain ⟨ROW, hROW⟩ : ∃ ROW : Array Value, ROW = (cur.toList.take (i * 2)).toArray ++ Builtin.zeroCells Z (n + 1 - i) ++ Builtin.zeroCells Z (G - (n + 1)) := ⟨_, rfl⟩
  have hrz : ∀ ty, (Builtin.append_ #[22, 3] ty #[.slice (some ⟨g, 0, none⟩) i cap, .int .i64 ((n : Int) + 1 - (i : Int))]).run Try.prog w =
      .ok (.slice (some ⟨w.heap.size, 0, none⟩) (n + 1) G) (w.drew.alloc (.cells ROW 57)) := fun ty => by
    have h := Lib.run_append_grow_zeros w 22 3 ty 57 i0 _ .i64 .i64 Try.underlying22 Try.underlying3 hi0 hz0 (some ⟨g, 0, none⟩) i cap (cur.toList.take (i * 2)) hold (n + 1 - i) (by omega) (by omega) (by omega) (by omega) (by rw [hzb]; omega) (by rw [hzb, hik]; exact growslice_fits hroom hbig)
    rw [hik] at h
    rw [hkk, hROW, hG, hZ]
    exact h
  have hGn : n + 1 ≤ G := by rw [hG]; exact grownCap_ge w _ _ _
  have hGm : G ≤ maxLen := by rw [hG]; exact grownCap_le_maxLen w (n + 1) cap 57 (by unfold maxLen; omega)
  have hG63 : G ≤ 9223372036854775807 := hGm
  have hRs : ROW.size = G * 2 := by
    rw [hROW, Array.size_append, Array.size_append, size_zeroCells, size_zeroCells, hZs, List.size_toArray, List.length_take, hcl]
    omega
  have hRt : ROW.toList.take (i * 2) = cur.toList.take (i * 2) := by
    rw [hROW, Array.append_assoc, Array.toList_append, List.take_append_of_le_length (by rw [List.length_take, hcl]; omega), List.take_take, Nat.min_self]
  have hRl : ROW.toList.length = G * 2 := by rw [Array.length_toList]; exact hRs
  obtain ⟨W1, hW1⟩ : ∃ W1, W1 = w.drew.alloc (.cells ROW 57) := ⟨_, rfl⟩
  rw [← hW1] at hrz
  have hb1 : Below w.heap.size w W1 := by rw [hW1]; exact below_alloc (below_drew (Below.refl _ _)) _
  have hgN : W1.heap[w.heap.size]? = some (.cells ROW 57 (0, 0)) := by rw [hW1]; exact heap_alloc_new w.drew _
  obtain ⟨N, hN⟩ : ∃ N, N = w.heap.size := ⟨_, rfl⟩
  have hg1 := (hb1.block g hgw).trans hg
  have hv1 := (hb1.block vb hvw).trans hv
  have hl1 : ((cur.toList.take (n * 2)).drop (i * 2)).length = (n - i) * 2 := by rw [List.length_drop, List.length_take, hcl]; omega
  have hm1 : Nat.min 1 (n + 1 - i) = 1 := Nat.min_eq_left (by omega)
  have hm2 : Nat.min (n - i) (n + 1 - (i + 1)) = n - i := (Nat.min_eq_left (by omega))
  obtain ⟨R1, hR1⟩ : ∃ R1, R1 = (ROW.toList.take (i * 2) ++ vs ++ ROW.toList.drop (i * 2 + vs.length)) := ⟨_, rfl⟩
  have hR1l : R1.length = G * 2 := by rw [hR1]; simp only [List.length_append, List.length_take, List.length_drop, hRl, hvl]; omega
  obtain ⟨cs1, hcs1⟩ : ∃ cs1, cs1 = (cur.toList.take (n * 2)).drop (i * 2) := ⟨_, rfl⟩
  have hcpA : ∀ W : World, W.heap = W1.heap → ∀ ty dc, (Builtin.copy_ #[22, 22] ty #[.slice (some ⟨N, i * 2, none⟩) (n + 1 - i) dc, .slice (some ⟨vb, 0, none⟩) 1 1]).run Try.prog W = .ok (goInt ((1 : Nat) : Int)) (W.setRow N R1.toArray) := fun W hW ty dc => by
    have h := run_copy_wide (P := Try.prog) W 22 22 ty 57 2 N (i * 2) (n + 1 - i) dc ⟨vb, 0, none⟩ 1 1 ROW 57 vs Try.underlying22 hsz (by rw [hW, hN]; exact hgN) (by rw [hvl, hm1])
      (fun j v hj => by
        rw [Addr.add_lit, blk_cell (by rw [hW]; exact hv1)]
        simpa using hj)
      (by rw [hvl, hRs]; omega) h1v
    rw [hm1, ← hR1] at h
    exact h
  obtain ⟨R2, hR2⟩ : ∃ R2, R2 = (R1.take ((i + 1) * 2) ++ cs1 ++ R1.drop ((i + 1) * 2 + cs1.length)) := ⟨_, rfl⟩
  have hcpB : ∀ W : World, W.heap = (W1.setRow N R1.toArray).heap → ∀ ty dc sc, (Builtin.copy_ #[22, 22] ty #[.slice (some ⟨N, (i + 1) * 2, none⟩) (n + 1 - (i + 1)) dc, .slice (some ⟨g, i * 2, none⟩) (n - i) sc]).run Try.prog W = .ok (goInt ((n - i : Nat) : Int)) (W.setRow N R2.toArray) := fun W hW ty dc sc => by
    have h := run_copy_wide (P := Try.prog) W 22 22 ty 57 2 N ((i + 1) * 2) (n + 1 - (i + 1)) dc ⟨g, i * 2, none⟩ (n - i) sc R1.toArray 57 cs1 Try.underlying22 hsz (by rw [hW, hN]; exact setRow_heap W1 _ ROW _ 57 (0, 0) hgN) (by rw [hcs1, hl1, hm2])
      (fun j v hj => by
        rw [Addr.add_lit, blk_cell (cs := cur) (by rw [hW, setRow_other _ _ _ _ (by omega)]; exact hg1)]
        rw [hcs1, List.getElem?_drop] at hj
        have hlt : i * 2 + j < n * 2 := by
          have := (List.getElem?_eq_some_iff.1 hj).1
          rw [List.length_take] at this
          omega
        rw [List.getElem?_take, if_pos hlt] at hj
        rw [← hj, Array.getElem?_toList])
      (by rw [hcs1, hl1, List.size_toArray, hR1l]; omega) (fun v hv => h1c v (List.mem_of_mem_drop (by rw [← hcs1]; exact hv)))
    rw [hm2] at h
    rw [hR2]
    exact h
  have hR2l : R2.length = G * 2 := by rw [hR2]; simp only [List.length_append, List.length_take, List.length_drop, hR1l, hcs1, hl1, hcl]; omega
  have hfin : R2.take ((n + 1) * 2) = cur.toList.take (i * 2) ++ vs ++ (cur.toList.take (n * 2)).drop (i * 2) := by
    have e1 : R1.take ((i + 1) * 2) = cur.toList.take (i * 2) ++ vs := by
      rw [hR1, hRt, List.take_left' (by rw [List.length_append, List.length_take, hcl, hvl]; omega)]
    rw [hR2, e1, ← hcs1, List.take_left' (by simp only [List.length_append, List.length_take, hcs1, hl1, hcl, hvl]; omega)]
  have hgi : ¬ (G = i) := by omega
  have hgim : ¬ (G = i + 1) := by omega
  have hci : ¬ (cap = i) := by omega
  have hw1 : IntKind.i64.wrap ((i : Int) + 1) = (i : Int) + 1 := by rw [IntKind.wrap_i64]; omega
  have hw2 : IntKind.i64.wrap ((n : Int) + 1) = (n : Int) + 1 := by rw [IntKind.wrap_i64]; omega
  have hb0 : (0 : Int) ≤ (i : Int) + 1 := by omega
  have hin : i ≤ n := by omega
  have htn : ((i : Int) + 1).toNat = i + 1 := by omega
  have hb3 : (i : Int) ≤ (n : Int) := by omega
  replace hfin := Lib.hid hfin
  replace hgN := Lib.hid hgN
  replace hb1 := Lib.hid hb1
  subst hN
  clear hkk hik hold hROW hG hRl hg hv hg1 hv1 h1c h1v hl1 hR2 hR1 hR1l hcl hcs hRt hZ
  subst hW1
  have hcpA0 := hcpA (w.alloc (.cells ROW 57)).drew rfl
  have hcpB0 := hcpB ((w.alloc (.cells ROW 57)).drew.setRow w.heap.size R1.toArray).drew rfl
  clear hcpA hcpB
  go_enter Try.func30, Try.ntmps30
  go_wp2_with (first
    | (at_builtin; refine Lib.wpList_append_run _ rfl _ _ _ _ rfl _ _ rfl rfl _ _ (hrz _) ?_)
    | (at_builtin; refine wpList_copy_runI _ rfl _ _ 22 22 rfl _ _ rfl rfl (hcpA0 _ _) ?_))
  go_region_law_o (refine step_copy_runI rfl _ _ 22 22 rfl (.slice (some ⟨w.heap.size, (i + 1) * 2, none⟩) (n + 1 - (i + 1)) (G - (i + 1))) (.slice (some ⟨g, i * 2, none⟩) (n - i) (cap - i)) (by simp [Act.eval, Act.put]) (by simp [Act.eval, Act.put]) (hcpB0 3 (G - (i + 1)) (cap - i)) ?_)
  go_wp2
  go_ret
  refine ⟨G, R2.toArray, rfl, hGn, hGm, ?_, by rw [List.size_toArray]; exact hR2l, hfin.out, ?_⟩
  · exact setRow_heap (((w.alloc (.cells ROW 57)).drew.setRow w.heap.size R1.toArray).drew) w.heap.size R1.toArray _ 57 (0, 0) (setRow_heap (w.alloc (.cells ROW 57)).drew w.heap.size ROW _ 57 (0, 0) hgN.out)
  · have hB1 : Below w.heap.size w (w.alloc (.cells ROW 57)).drew := below_drew (below_alloc (Below.refl _ _) _)
    have hB2 := hB1.grown (setRow_grown _ w.heap.size R1.toArray) hB1.size (fun k hk => by injection hk with hk; omega)
    exact (below_drew hB2).grown (setRow_grown _ w.heap.size R2.toArray) (below_drew hB2).size (fun k hk => by injection hk with hk; omega)
/-- One element in a box of its own, as a row. -/
theorem one_C {w0 w : World} {x : S57} {cs : List Value} {vb : Nat} (hK : k57.K w0 x cs) (hv : w.heap[vb]? = some (.cells cs.toArray 57 (0, 0))) : (kr w0).C w (some ⟨vb, 0, none⟩) 1 [x] := by
  have hl : cs.length = 2 := k57.K_len hK
  refine ⟨rfl, by omega, fun _ => ⟨_, rfl, fun j p hj => ?_⟩⟩
  obtain ⟨rfl, rfl⟩ : j = 0 ∧ p = x := by
    rcases j with _ | j
    · exact ⟨rfl, by simpa using hj.symm⟩
    · simp at hj
  refine ⟨cs, hl, hK, fun i u hu => ?_⟩
  rw [Addr.add_lit, show 0 + (0 * (kr w0).sz + i) = i by omega, blk_cell hv]
  simpa using hu
set_option maxHeartbeats 1000000 in
set_option maxRecDepth 100000 in
theorem insert_end (base : Nat) (A : Option Addr) (cap : Nat) (xs : List S57) (x : S57) (vb : Nat) (cs : List Value) (w0 w : World) (hR : Kd.R (kr w0) 57 w base (fun _ => True) (.slice A xs.length cap) xs) (hbase : base ≤ w.heap.size) (hlim : xs.length ≤ 1000000) (hK : k57.K w0 x cs) (hv : w.heap[vb]? = some (.cells cs.toArray 57 (0, 0))) :
    Calls Try.prog 30 #[.slice A xs.length cap, .int .i64 (xs.length : Int), .slice (some ⟨vb, 0, none⟩) 1 1] w fun e w' => ∃ v, e = .returned v ∧ Kd.R (kr w0) 57 w' base (fun _ => True) v (xs ++ [x]) ∧ Below base w w' := by
  have hC := one_C hK hv
  replace hC := Aside0.mk hC
  have hform : (A = none ∧ xs.length = 0 ∧ cap = 0) ∨ (∃ g, A = some ⟨g, 0, none⟩ ∧ xs.length ≤ cap ∧ cap ≤ 9223372036854775807) := by
    obtain ⟨_, inner, ho, _⟩ := hR
    rcases ho.2 with ⟨he, hn⟩ | ⟨g, cap', cur, he, _, _, hnc, hcm, _⟩
    · injection he with e1 e2 e3
      exact .inl ⟨e1, e2, e3⟩
    · injection he with e1 e2 e3
      subst e3
      exact .inr ⟨g, e1, hnc, hcm⟩
  have hB0 : Below base w w := Below.mono (Below.refl w.heap.size w) hbase
  have HR := Aside0.mk hR
  clear hR hv hK
  generalize hn : xs.length = n at HR hform hlim ⊢
  rcases hform with ⟨rfl, rfl, rfl⟩ | ⟨g, rfl, hnc, hcm⟩
  · go_enter Try.func30, Try.ntmps30
    go_wp2_with ((with_reducible refine gate_builtin (b := .append) (xs := #[.tmp 23, .tmp 24]) rfl ?_); at_builtin; refine Kd.R_append_rows (kr w0) (w0 := w) base rfl (.tmp 23) (.tmp 24) 22 57 (.agg #[(.int .u64 0), (.slice none 0 0)]) 32 rfl Try.underlying22 info57 rfl (by show 0 < 2; omega) (by omega) _ xs [x] _ _ _ (fun _ => True) (fun _ => False) rfl rfl HR.out hC.out (fun _ _ h => h) (fun _ h => h.elim) (fun _ _ => trivial) hB0 hbase (by rw [hn]; omega) ?_; intro v2 w2 ho hb hg hat; clear hg hat)
    go_ret
    exact ⟨_, rfl, ho, hb⟩
  · have hci : (cap = n) = (n = cap) := propext ⟨Eq.symm, Eq.symm⟩
    by_cases hcn : n = cap
    · go_enter Try.func30, Try.ntmps30
      go_wp2_with ((with_reducible refine gate_builtin (b := .append) (xs := #[.tmp 23, .tmp 24]) rfl ?_); at_builtin; refine Kd.R_append_rows (kr w0) (w0 := w) base rfl (.tmp 23) (.tmp 24) 22 57 (.agg #[(.int .u64 0), (.slice none 0 0)]) 32 rfl Try.underlying22 info57 rfl (by show 0 < 2; omega) (by omega) _ xs [x] _ _ _ (fun _ => True) (fun _ => False) rfl rfl HR.out hC.out (fun _ _ h => h) (fun _ h => h.elim) (fun _ _ => trivial) hB0 hbase (by rw [hn]; omega) ?_; intro v2 w2 ho hb hg hat; clear hg hat)
      go_ret
      exact ⟨_, rfl, ho, hb⟩
    · go_enter Try.func30, Try.ntmps30
      go_wp2_with ((with_reducible refine gate_builtin (b := .append) (xs := #[.tmp 23, .tmp 24]) rfl ?_); at_builtin; refine Kd.R_append_rows (kr w0) (w0 := w) base rfl (.tmp 23) (.tmp 24) 22 57 (.agg #[(.int .u64 0), (.slice none 0 0)]) 32 rfl Try.underlying22 info57 rfl (by show 0 < 2; omega) (by omega) _ xs [x] _ _ _ (fun _ => True) (fun _ => False) rfl rfl HR.out hC.out (fun _ _ h => h) (fun _ h => h.elim) (fun _ _ => trivial) hB0 hbase (by rw [hn]; omega) ?_; intro v2 w2 ho hb hg hat; clear hg hat)
      go_ret
      exact ⟨_, rfl, ho, hb⟩
theorem reps_insert {α : Type} {R : α → List Value → Prop} {size i : Nat} {ps : List α} {cs vs : List Value} {x : α} (h : Reps R size ps cs) (hi : i ≤ ps.length) (hx : R x vs) (hl : vs.length = size) : Reps R size (ps.take i ++ x :: ps.drop i) (cs.take (i * size) ++ vs ++ cs.drop (i * size)) := by
  rw [List.append_assoc]
  exact Kd.reps_append (Kd.reps_take h hi) (Reps.front hx hl (Kd.reps_drop h) rfl)
theorem kr_R {w0 w : World} {base g n cap : Nat} {row : Array Value} {ys : List S57} {inner : List Value} (hbg : base ≤ g) (hg : w.heap[g]? = some (.cells row 57 (0, 0))) (hn : ys.length = n) (hnc : n ≤ cap) (hcm : cap ≤ maxLen) (hrs : row.size = cap * 2) (htk : row.toList.take (n * 2) = inner)
    (hR : Reps (k57.K w0) 2 ys inner) : Kd.R (kr w0) 57 w base (fun _ => True) (.slice (some ⟨g, 0, none⟩) n cap) ys := by
  subst hn
  exact ⟨fun _ _ => trivial, inner, ⟨hR.1, .inr ⟨g, cap, row, rfl, hbg, hg, hnc, hcm, hrs, htk⟩⟩, hR⟩
set_option maxHeartbeats 1000000 in
theorem insert_calls (base : Nat) (A : Option Addr) (cap : Nat) (xs : List S57) (x : S57) (i : Nat) (vb : Nat) (cs : List Value) (w0 w : World) (hR : Kd.R (kr w0) 57 w base (fun _ => True) (.slice A xs.length cap) xs) (hbase : base ≤ w.heap.size) (hi : i ≤ xs.length) (hlim : xs.length ≤ 1000000) (hK : k57.K w0 x cs) (hvb : ∀ k, (Value.slice A xs.length cap).ownBlock = some k → vb ≠ k)
    (hv : w.heap[vb]? = some (.cells cs.toArray 57 (0, 0))) :
    Calls Try.prog 30 #[.slice A xs.length cap, .int .i64 (i : Int), .slice (some ⟨vb, 0, none⟩) 1 1] w fun e w' => ∃ v, e = .returned v ∧ Kd.R (kr w0) 57 w' base (fun _ => True) v (xs.take i ++ x :: xs.drop i) ∧ Below base w w' := by
  rcases Nat.eq_or_lt_of_le hi with rfl | hlt
  · rw [List.take_length, List.drop_length]
    exact insert_end base A cap xs x vb cs w0 w hR hbase hlim hK hv
  · obtain ⟨h0, inner, ho, hr⟩ := hR
    obtain ⟨hil, hnil | ⟨g, cap', cur, he, hbg, hg, hnc, hcm, hcs, htk⟩⟩ := ho
    · omega
    · injection he with e1 e2 e3
      subst e1 e3
      have hgvb : vb ≠ g := hvb g (by simp [Value.ownBlock])
      have hl5 : cs.length = 2 := k57.K_len hK
      have h1v : ∀ v ∈ cs, v.oneCell' = true := k57.K_one hK
      have h1c : ∀ v ∈ cur.toList.take (xs.length * 2), v.oneCell' = true := fun v hv => Kd.reps_one hr (by show 0 < 2; omega) (fun p c hp => k57.K_one hp) v (htk ▸ hv)
      have hR5 : Reps (k57.K w0) 2 (xs.take i ++ x :: xs.drop i) (inner.take (i * 2) ++ cs ++ inner.drop (i * 2)) := reps_insert (R := k57.K w0) hr hi hK hl5
      have hlen : (xs.take i ++ x :: xs.drop i).length = xs.length + 1 := by rw [List.length_append, List.length_take, List.length_cons, List.length_drop]; omega
      have hil' : inner.length = xs.length * 2 := hil
      have htk' : cur.toList.take (xs.length * 2) = inner := htk
      have hcs' : cur.size = cap * 2 := hcs
      have hcl : cur.toList.length = cap * 2 := by rw [Array.length_toList]; exact hcs'
      have hm : (maxLen : Nat) = 9223372036854775807 := rfl
      have htake : cur.toList.take (i * 2) = inner.take (i * 2) := by rw [← htk', List.take_take, Nat.min_eq_left (by omega)]
      by_cases hroom : xs.length + 1 ≤ cap
      · refine (insert_shift g xs.length cap i vb cur cs w hlt hroom (by omega) hgvb hg hcs' hv hl5 h1c h1v).mono ?_
        rintro e_ w' ⟨rfl, hg', hG⟩
        refine ⟨_, rfl, kr_R hbg hg' hlen hroom hcm ?_ ?_ hR5, ⟨hG.os, hG.tape, hG.output, hG.size, fun k hk => hG.block k (by omega) (fun e => by injection e with e; omega)⟩⟩
        · rw [List.size_toArray]
          simp only [List.length_append, List.length_take, List.length_drop, hcl, hl5]
          omega
        · rw [htk', htake, List.take_left' (by simp only [List.length_append, List.length_take, List.length_drop, hil', hl5]; omega)]
      · refine (insert_grow g xs.length cap i vb cur cs w hlt hnc (by omega) (by omega) hgvb hg hcs' hv hl5 h1c h1v).mono ?_
        rintro e_ w' ⟨G, row, rfl, hG1, hG2, hg', hrs, hrt, hB⟩
        exact ⟨_, rfl, kr_R hbase hg' hlen hG1 hG2 hrs (by rw [hrt, htk', htake]) hR5, Below.mono hB hbase⟩
end Go.Proofs.Ytbmfcikjhnnnbaa.Q
