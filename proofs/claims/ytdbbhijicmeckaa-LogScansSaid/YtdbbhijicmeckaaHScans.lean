/- LogScans answers true: the texts of any bytes, where they end, and what is recovered of them, are as the document says.
   Conditions: none but the types. -/
import Derived.Test.YtdbbhijicmeckaaHRef
import Derived.Laws.Strings3
namespace Go.Proofs.Ytdbbhijicmeckaa.Q
open Go.RowKit Go.Proofs.YtdbbhijicmeckaaW.PrintWords Go.Proofs.YtdbbhijicmeckaaW.PrintLast Go.Proofs.YtdbbhijicmeckaaW.PrintMore
set_option linter.unusedVariables false
set_option linter.unusedSimpArgs false

set_option maxHeartbeats 4000000 in
set_option maxRecDepth 100000 in
theorem scans_walk (s : ByteArray) (w : World) (g0 : s.size ≤ reachBytes) :
    Calls Try.prog 4 #[.string s] w fun e w' => e = .returned (.bool true) ∧ Below w.heap.size w w' := by
  obtain ⟨u, hu⟩ : ∃ u, s.extract 0 (min (s.size : Int) 3000).toNat = u := ⟨_, rfl⟩
  have hus : u.size ≤ 3000 := by rw [← hu, ByteArray.size_extract]; omega
  have hsl : ∀ W, (Instr.slice 9 (.string s) none (some (.int .i64 (min (s.size : Int) 3000))) none).run Try.prog W = .ok (.string u) W := fun W => by
    rw [run_slice_string_to_if W 9 s .i64 _ Try.underlying9, if_pos (by omega), hu]
  have hg0 : s.size ≤ 9223372036854775807 := by unfold reachBytes at g0; omega
  have hl1 := scanL_len u
  have hl2 : (recOf (scanL u)).2.length ≤ 10000 := by
    have := recOf_len (scanL u) (⟨#[]⟩, [])
    simp only [List.length_nil] at this
    unfold recOf
    omega
  have hrs := ref_scan u (by omega) 50000 (by omega)
  have hrr := ref_recover u (by omega) 50000 (by omega)
  have ht1 := texts_same (scanL u) (by omega) 20000 (by omega)
  have ht2 := texts_same (recOf (scanL u)).2 (by omega) 20000 (by omega)
  have hcs := fun W => scan_calls u (by omega) W
  have hcr := fun W => recover_calls u (by omega) W
  generalize recOf (scanL u) = rc at hrr ht2 hcr
  obtain ⟨st, lat⟩ := rc
  generalize scanL u = tx at hrs ht1 hcs
  generalize scanE u = en at hrs hcs
  dsimp only at hcr ht2
  have hal := alive_eq
  clear hl1 hl2 hu hus g0
  replace hrs := Lib.hid hrs
  replace hrr := Lib.hid hrr
  replace ht1 := Lib.hid ht1
  replace ht2 := Lib.hid ht2
  replace hcs := Lib.hid hcs
  replace hcr := Lib.hid hcr
  replace hal := Lib.hid hal
  have HB := Aside0.mk (Below.refl w.heap.size w)
  go_enter Try.func4, Try.ntmps4
  go_wp2_with fail
  refine (hcs.out _).mono ?_; rintro e_ w1 ⟨A1, c1, rfl, h1, hC1, hb⟩
  have C1 := Aside0.mk hC1; replace HB := Aside0.mk (below_step HB.out hb); clear hb hC1
  go_wp2_with fail
  refine (hcr.out _).mono ?_; rintro e_ w2 ⟨A2, c2, rfl, h2, hC2, hb⟩
  have C2 := Aside0.mk hC2; replace C1 := Aside0.mk (Kd.C_below C1.out hb); replace HB := Aside0.mk (below_step HB.out hb); clear hb hC2
  go_wp2_with fail
  refine (demurralref09_Scan.calls 50000 u tx en _ hrs.out).mono ?_; rintro e_ w3 ⟨v3, rfl, hR, hb⟩
  obtain ⟨A3, c3, rfl, h3, hC⟩ := Kd.R_reads hR
  have C3 := Aside0.mk hC; replace C1 := Aside0.mk (Kd.C_below C1.out hb); replace C2 := Aside0.mk (Kd.C_below C2.out hb); replace HB := Aside0.mk (below_step HB.out hb); clear hb hC hR
  go_wp2_with fail
  refine (demurralref09_Recover.calls 50000 u st lat _ hrr.out).mono ?_; rintro e_ w4 ⟨v4, rfl, hR, hb⟩
  obtain ⟨A4, c4, rfl, h4, hC⟩ := Kd.R_reads hR
  have C4 := Aside0.mk hC; replace C1 := Aside0.mk (Kd.C_below C1.out hb); replace C2 := Aside0.mk (Kd.C_below C2.out hb); replace C3 := Aside0.mk (Kd.C_below C3.out hb); replace HB := Aside0.mk (below_step HB.out hb); clear hb hC hR
  go_wp2_with fail
  obtain ⟨w5, hw5⟩ : ∃ w5, (w4.alloc (Obj.cells #[Value.slice A3 tx.length c3, Value.int IntKind.i64 en] 40)).alloc (Obj.cells #[Value.string st, Value.slice A4 lat.length c4] 43) = w5 := ⟨_, rfl⟩
  have hb : Below w4.heap.size w4 w5 := by rw [← hw5]; exact below_alloc (below_alloc (Below.refl _ _) _) _
  have K1 : Aside0 (w5.heap[w4.heap.size]? = some (.cells #[Value.slice A3 tx.length c3, Value.int IntKind.i64 en] 40 (0, 0))) := Aside0.mk (by
    rw [← hw5, Below.heap_alloc _ _ _ (by simp)]; exact heap_alloc_new _ _)
  have K2 : Aside0 (w5.heap[w4.heap.size + 1]? = some (.cells #[Value.string st, Value.slice A4 lat.length c4] 43 (0, 0))) := Aside0.mk (by
    have := heap_alloc_new (w4.alloc (Obj.cells #[Value.slice A3 tx.length c3, Value.int IntKind.i64 en] 40)) (Obj.cells #[Value.string st, Value.slice A4 lat.length c4] 43)
    rw [World.size_alloc] at this
    rw [← hw5]; exact this)
  replace C1 := Aside0.mk (Kd.C_below C1.out hb); replace C2 := Aside0.mk (Kd.C_below C2.out hb); replace C3 := Aside0.mk (Kd.C_below C3.out hb); replace C4 := Aside0.mk (Kd.C_below C4.out hb); replace HB := Aside0.mk (below_step HB.out hb)
  clear hb
  rw [hw5]
  clear hw5
  generalize w4.heap.size = gq at K1 K2 ⊢
  refine (demurrallaw09_alive.calls true _ hal.out).mono ?_; rintro e_ w6 ⟨rfl, hb⟩
  replace C1 := Aside0.mk (Kd.C_below C1.out hb); replace C2 := Aside0.mk (Kd.C_below C2.out hb); replace C3 := Aside0.mk (Kd.C_below C3.out hb); replace C4 := Aside0.mk (Kd.C_below C4.out hb); replace K1 := Aside0.mk ((hb.block _ (Array.getElem?_eq_some_iff.1 K1.out).1).trans K1.out); replace K2 := Aside0.mk ((hb.block _ (Array.getElem?_eq_some_iff.1 K2.out).1).trans K2.out); replace HB := Aside0.mk (below_step HB.out hb); clear hb
  have y0 : w6.cell? ⟨gq, 0, none⟩ = some (Value.slice A3 tx.length c3) := (blk_cell K1.out 0).trans rfl
  have y1 : w6.cell? ⟨gq, 1, none⟩ = some (Value.int .i64 en) := (blk_cell K1.out 1).trans rfl
  go_wp2_with fail
  refine (demurralref04_Texts.calls 20000 A1 c1 tx A3 c3 tx true _ C1.out h1 C3.out h3 ht1.out).mono ?_; rintro e_ w7 ⟨rfl, hd⟩; have hb := hd.below; clear hd y0 y1
  replace C1 := Aside0.mk (Kd.C_below C1.out hb); replace C2 := Aside0.mk (Kd.C_below C2.out hb); replace C3 := Aside0.mk (Kd.C_below C3.out hb); replace C4 := Aside0.mk (Kd.C_below C4.out hb); replace K1 := Aside0.mk ((hb.block _ (Array.getElem?_eq_some_iff.1 K1.out).1).trans K1.out); replace K2 := Aside0.mk ((hb.block _ (Array.getElem?_eq_some_iff.1 K2.out).1).trans K2.out); replace HB := Aside0.mk (below_step HB.out hb); clear hb
  have y1 : w7.cell? ⟨gq, 1, none⟩ = some (Value.int .i64 en) := (blk_cell K1.out 1).trans rfl
  have y2 : w7.cell? ⟨gq + 1, 0, none⟩ = some (Value.string st) := (blk_cell K2.out 0).trans rfl
  have y3 : w7.cell? ⟨gq + 1, 1, none⟩ = some (Value.slice A4 lat.length c4) := (blk_cell K2.out 1).trans rfl
  go_wp2_with fail
  refine (demurralref04_Texts.calls 20000 A2 c2 lat A4 c4 lat true _ C2.out h2 C4.out h4 ht2.out).mono ?_; rintro e_ w8 ⟨rfl, hd⟩
  go_wp2
  go_ret
  exact ⟨rfl, below_step HB.out hd.below⟩
end Go.Proofs.Ytdbbhijicmeckaa.Q
