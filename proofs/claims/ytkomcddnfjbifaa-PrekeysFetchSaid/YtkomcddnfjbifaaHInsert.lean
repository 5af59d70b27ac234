/- slices.Insert of one shelf into a row of one's own.
   Conditions: the place lies in the row or at its end. -/
import Derived.Test.YtkomcddnfjbifaaHBox
import Derived.Shelf.RegionOpenPlain
import Derived.Shelf.Spec.SlicesInsertGrow
namespace Go.Proofs.Ytkomcddnfjbifaa.Q
open Go.RowKit Go.Proofs.YtkomcddnfjbifaaW.PrintWords Go.Proofs.YtkomcddnfjbifaaW.PrintLast Go.Proofs.YtkomcddnfjbifaaW.PrintMore
set_option linter.unusedVariables false
set_option linter.unusedSimpArgs false

/-- copy of whole elements into a plain row. -/
theorem run_copy_wide {P : Program} (w : World) (dT sT ty elem : TypeId) (size g o dLen dCap : Nat) (a : Addr) (sLen sCap : Nat) (cur : Array Value) (t : TypeId) (cs : List Value)
    (hu : P.underlying dT = some (.slice elem)) (hs : (P.info? elem).map (·.size) = some size)
    (hg : w.heap[g]? = some (.cells cur t (0, 0))) (hn : cs.length = Nat.min sLen dLen * size)
    (hsrc : ∀ j v, cs[j]? = some v → w.cell? (a.add j) = some v) (hfit : o + cs.length ≤ cur.size) (h1 : ∀ v ∈ cs, v.oneCell' = true) :
    (Builtin.copy_ #[dT, sT] ty #[.slice (some ⟨g, o, none⟩) dLen dCap, .slice (some a) sLen sCap]).run P w =
      .ok (goInt (Nat.min sLen dLen)) (w.setRow g (cur.toList.take o ++ cs ++ cur.toList.drop (o + cs.length)).toArray) := by
  have hl := run_loadCells_list (P := P) w a cs hsrc
  have hst := run_storeCells_at P g o t cs 0 cur w hg (by simpa using hfit) h1
  cases hq : P.info? elem with
  | none => simp [hq] at hs
  | some i =>
    have hi : i.size = size := by simpa [hq] using hs
    simp [Builtin.copy_, run_underlying hu, Builtin.lenOf, Builtin.firstCells, sizeOf, typeInfo, hq, hi, ← hn, hl, hst]
theorem setRow_grown (w : World) (g : Nat) (cs : Array Value) : w.grownBy (w.setRow g cs) (some g) := ⟨rfl, rfl, rfl, by simp [World.setRow], fun k _ hk => setRow_other w g k cs (fun e => hk (by rw [e]))⟩
set_option maxHeartbeats 4000000 in
set_option maxRecDepth 100000 in
theorem insert_shift (g n cap i vb : Nat) (cur : Array Value) (vs : List Value) (w : World) (hi : i < n) (hroom : n + 1 ≤ cap) (hc63 : cap ≤ 9223372036854775807) (hvb : vb ≠ g) (hg : w.heap[g]? = some (.cells cur 29 (0, 0))) (hcs : cur.size = cap * 5)
    (hv : w.heap[vb]? = some (.cells vs.toArray 29 (0, 0))) (hvl : vs.length = 5) (h1c : ∀ v ∈ cur.toList.take (n * 5), v.oneCell' = true) (h1v : ∀ v ∈ vs, v.oneCell' = true) :
    Calls Try.prog 35 #[.slice (some ⟨g, 0, none⟩) n cap, .int .i64 i, .slice (some ⟨vb, 0, none⟩) 1 1] w fun e w' =>
      e = .returned (.slice (some ⟨g, 0, none⟩) (n + 1) cap) ∧ w'.heap[g]? = some (.cells (cur.toList.take (i * 5) ++ vs ++ (cur.toList.take (n * 5)).drop (i * 5) ++ cur.toList.drop ((n + 1) * 5)).toArray 29 (0, 0)) ∧ w.grownBy w' (some g) := by
  have mixed : Try.prog.follows Departure.mixedOrders = true := by kernel_rfl
  have hz2 : ¬ ((i : Int) = (n : Int)) := by omega
  have hsz : (Try.prog.info? 29).map (·.size) = some 5 := by
    obtain ⟨i0, hi0, h0, h1, h2⟩ := info_parts info29
    rw [hi0]; simp [h1]
  have hov : ∀ lb cb, (callFunc 46 #[.slice (some ⟨vb, 0, none⟩) 1 1, .slice (some ⟨g, (i + 1) * 5, none⟩) lb cb]).run Try.prog w = .ok (.value (.bool false)) w := fun lb cb => by
    rw [run_callFunc_extern Try.func46 (by kernel_rfl) (by kernel_rfl) (by kernel_rfl) (e := Extern.SlicesOverlaps.overlaps #[22, 22] #[4]) (by kernel_rfl),
      Lib.run_overlaps_apart w 22 4 29 Try.underlying22 5 (fun W => Try.sizeOf29 W) ⟨vb, 0, none⟩ ⟨g, (i + 1) * 5, none⟩ 1 1 lb cb hvb 29 29 vs.length cur.size (by simp [World.shape?, hv]) (by simp [World.shape?, hg]) (by omega) (blk_frozen hv _) (blk_frozen hv _)]
    rfl
  obtain ⟨cs1, hcs1⟩ : ∃ cs1, cs1 = (cur.toList.take (n * 5)).drop (i * 5) := ⟨_, rfl⟩
  have hcl : cur.toList.length = cap * 5 := by rw [Array.length_toList]; exact hcs
  have hl1 : cs1.length = (n - i) * 5 := by rw [hcs1, List.length_drop, List.length_take, hcl]; omega
  have hw1 : IntKind.i64.wrap ((i : Int) + 1) = (i : Int) + 1 := by rw [IntKind.wrap_i64]; omega
  have hw2 : IntKind.i64.wrap ((n : Int) + 1) = (n : Int) + 1 := by rw [IntKind.wrap_i64]; omega
  have htn : ((i : Int) + 1).toNat = i + 1 := by omega
  have htm : ((n : Int) + 1).toNat = n + 1 := by omega
  have hb1 : (0 : Int) ≤ (i : Int) + 1 := by omega
  have hb2 : ¬ (cap = i + 1) := by omega
  have hb3 : (i : Int) ≤ (n : Int) + 1 := by omega
  have hb4 : ¬ (cap = i) := by omega
  have hb5 : i ≤ n := by omega
  have hno : ¬ ((cap : Int) < (n : Int) + 1) := by omega
  have hroom' : (n : Int) + 1 ≤ cap := by omega
  have hm1 : Nat.min (n + 1 - i) (n + 1 - (i + 1)) = n - i := (Nat.min_eq_right (by omega)).trans (by omega)
  have hm2 : Nat.min 1 (n + 1 - i) = 1 := Nat.min_eq_left (by omega)
  obtain ⟨R1, hR1⟩ : ∃ R1, R1 = (cur.toList.take ((i + 1) * 5) ++ cs1 ++ cur.toList.drop ((i + 1) * 5 + cs1.length)) := ⟨_, rfl⟩
  have hR1l : R1.length = cap * 5 := by rw [hR1]; simp only [List.length_append, List.length_take, List.length_drop, hcl, hl1]; omega
  have hcp1 : ∀ ty dc sc, (Builtin.copy_ #[22, 22] ty #[.slice (some ⟨g, (i + 1) * 5, none⟩) (n + 1 - (i + 1)) dc, .slice (some ⟨g, i * 5, none⟩) (n + 1 - i) sc]).run Try.prog w.drew = .ok (goInt ((n - i : Nat) : Int)) (w.drew.setRow g R1.toArray) := fun ty dc sc => by
    have h := run_copy_wide (P := Try.prog) w.drew 22 22 ty 29 5 g ((i + 1) * 5) (n + 1 - (i + 1)) dc ⟨g, i * 5, none⟩ (n + 1 - i) sc cur 29 cs1 Try.underlying22 hsz hg (by rw [hl1, hm1])
      (fun j v hj => by
        rw [Addr.add_lit, show w.drew.cell? ⟨g, i * 5 + j, none⟩ = w.cell? ⟨g, i * 5 + j, none⟩ from rfl, blk_cell hg]
        rw [hcs1, List.getElem?_drop] at hj
        have hlt : i * 5 + j < n * 5 := by
          have := (List.getElem?_eq_some_iff.1 hj).1
          rw [List.length_take] at this
          omega
        rw [List.getElem?_take, if_pos hlt] at hj
        rw [← hj, Array.getElem?_toList])
      (by rw [hl1, hcs]; omega) (fun v hv => h1c v (List.mem_of_mem_drop (by rw [← hcs1]; exact hv)))
    rw [hm1, ← hR1] at h
    exact h
  have hg1 : (w.drew.setRow g R1.toArray).heap[g]? = some (.cells R1.toArray 29 (0, 0)) := setRow_heap w.drew g cur R1.toArray 29 (0, 0) hg
  have hv1 : (w.drew.setRow g R1.toArray).heap[vb]? = some (.cells vs.toArray 29 (0, 0)) := (setRow_other w.drew g vb _ hvb).trans hv
  have hG1 : w.grownBy (w.drew.setRow g R1.toArray) (some g) := ⟨rfl, rfl, rfl, (setRow_grown w.drew g R1.toArray).size, fun k _ hk => setRow_other w.drew g k _ (fun e => hk (by rw [e]))⟩
  obtain ⟨W1, hW1⟩ : ∃ W1, w.drew.setRow g R1.toArray = W1 := ⟨_, rfl⟩
  rw [hW1] at hcp1 hg1 hv1 hG1
  obtain ⟨R2, hR2⟩ : ∃ R2, R2 = (R1.take (i * 5) ++ vs ++ R1.drop (i * 5 + vs.length)) := ⟨_, rfl⟩
  have hcp2 : ∀ ty dc, (Builtin.copy_ #[22, 22] ty #[.slice (some ⟨g, i * 5, none⟩) (n + 1 - i) dc, .slice (some ⟨vb, 0, none⟩) 1 1]).run Try.prog W1 = .ok (goInt ((1 : Nat) : Int)) (W1.setRow g R2.toArray) := fun ty dc => by
    have h := run_copy_wide (P := Try.prog) W1 22 22 ty 29 5 g (i * 5) (n + 1 - i) dc ⟨vb, 0, none⟩ 1 1 R1.toArray 29 vs Try.underlying22 hsz hg1 (by rw [hvl, hm2])
      (fun j v hj => by
        rw [Addr.add_lit, blk_cell hv1]
        simpa using hj)
      (by rw [hvl, List.size_toArray, hR1l]; omega) h1v
    rw [hm2] at h
    rw [hR2]
    exact h
  have hfin : R2 = cur.toList.take (i * 5) ++ vs ++ (cur.toList.take (n * 5)).drop (i * 5) ++ cur.toList.drop ((n + 1) * 5) := by
    have e1 : R1.take (i * 5) = cur.toList.take (i * 5) := by
      rw [hR1, List.append_assoc, List.take_append_of_le_length (by rw [List.length_take, hcl]; omega), List.take_take, Nat.min_eq_left (by omega)]
    have e2 : R1.drop (i * 5 + vs.length) = cs1 ++ cur.toList.drop ((n + 1) * 5) := by
      rw [hR1, List.append_assoc, List.drop_left' (by rw [List.length_take, hcl, hvl]; omega), hl1]
      congr 2
      omega
    rw [hR2, e1, e2, ← hcs1]
    simp only [List.append_assoc]
  replace hfin := Lib.hid hfin
  replace hg := Lib.hid hg
  replace hg1 := Lib.hid hg1
  clear hv hv1 hsz h1c h1v hR1 hR2 hl1 hcl hcs hR1l
  go_enter Try.func35, Try.ntmps35
  go_wp2_with (simp only [hov])
  go_region_law_o (refine step_copy_runI rfl _ _ 22 22 rfl (.slice (some ⟨g, (i + 1) * 5, none⟩) (n + 1 - (i + 1)) (cap - (i + 1))) (.slice (some ⟨g, i * 5, none⟩) (n + 1 - i) (cap - i)) (by simp [Act.eval, Act.put]) (by simp [Act.eval, Act.put]) (hcp1 3 (cap - (i + 1)) (cap - i)) ?_)
  go_wp2_with (at_builtin; refine wpList_copy_runI _ rfl _ _ 22 22 rfl _ _ rfl rfl (hcp2 _ _) ?_)
  go_ret
  refine ⟨rfl, ?_, ?_⟩
  · rw [← hfin.out]
    exact setRow_heap W1 g _ _ 29 (0, 0) hg1.out
  · exact hG1.trans (setRow_grown W1 g _)
end Go.Proofs.Ytkomcddnfjbifaa.Q
