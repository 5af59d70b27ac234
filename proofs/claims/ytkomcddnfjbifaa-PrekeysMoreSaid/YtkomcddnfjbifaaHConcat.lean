/- slices.Grow and Concat at points: two rows of points, one behind the other, in a row of one's own.
   Conditions: at most 1000 points each. -/
import Derived.Test.YtkomcddnfjbifaaHFew
import Derived.Lib.AppendZerosOnto
namespace Go.Proofs.Ytkomcddnfjbifaa.Q
open Go.RowKit Go.Proofs.YtkomcddnfjbifaaW.PrintWords Go.Proofs.YtkomcddnfjbifaaW.PrintLast Go.Proofs.YtkomcddnfjbifaaW.PrintMore
set_option linter.unusedVariables false
set_option linter.unusedSimpArgs false

set_option maxRecDepth 100000 in
theorem grow_nil (n : Nat) (hn : n ≤ 10000) (w : World) : Calls Try.prog 48 #[.slice none 0 0, .int .i64 n] w fun e w' => ∃ v, e = .returned v ∧ Kd.R k26 26 w' w.heap.size (fun _ => True) v [] ∧ Below w.heap.size w w' := by
  have hnn : ¬ ((n : Int) < 0) := by omega
  rcases Nat.eq_zero_or_pos n with h | h
  · subst h
    go_enter Try.func48, Try.ntmps48
    go_wp2
    go_ret
    exact ⟨_, rfl, Kd.R_nil _ _ _ _ _, Below.refl _ _⟩
  · obtain ⟨i0, hi, hz0, hz1, hz2⟩ := info_parts info26
    have hrz : ∀ ty, (Builtin.append_ #[27, 3] ty #[.slice none 0 0, .int .i64 (n : Int)]).run Try.prog w = .ok (.slice (some ⟨w.heap.size, 0, none⟩) n (grownCap w n 0 26)) (w.drew.alloc (.cells (Builtin.zeroCells (Value.agg #[(.int .u64 0), (.string ⟨#[]⟩)]).cells n ++ Builtin.zeroCells (Value.agg #[(.int .u64 0), (.string ⟨#[]⟩)]).cells (grownCap w n 0 26 - n)) 26)) := fun ty => by
      have h := Lib.run_append_grow_zeros w 27 3 ty 26 i0 _ .i64 .i64 Try.underlying27 Try.underlying3 hi hz0 none 0 0 [] (by simp [Builtin.firstCells]; try rfl) n h (by omega) (by omega) (by omega) (by rw [hz2]; omega) (by rw [hz2, Nat.zero_add]; exact growslice_fits h (by omega))
      simpa using h
    have hG := grownCap_ge w n 0 26
    have hM := grownCap_le_maxLen w n 0 26 (by unfold maxLen; omega)
    generalize grownCap w n 0 26 = G at hrz hG hM
    obtain ⟨ROW, hROW⟩ : ∃ ROW, ROW = Builtin.zeroCells (Value.agg #[(.int .u64 0), (.string ⟨#[]⟩)]).cells n ++ Builtin.zeroCells (Value.agg #[(.int .u64 0), (.string ⟨#[]⟩)]).cells (G - n) := ⟨_, rfl⟩
    rw [← hROW] at hrz
    have hRs : ROW.size = G * 2 := by
      rw [hROW, Array.size_append, size_zeroCells, size_zeroCells]
      show n * 2 + (G - n) * 2 = G * 2
      omega
    have hG0 : ¬ (G = 0) := by omega
    replace hROW := Lib.hid hROW
    replace hRs := Lib.hid hRs
    clear hi hz0 hz1 hz2
    go_enter Try.func48, Try.ntmps48
    go_wp2_with (at_builtin; refine Lib.wpList_append_run _ rfl _ _ _ _ rfl _ _ rfl rfl _ _ (hrz _) ?_)
    go_ret
    refine ⟨_, rfl, ⟨fun _ _ => trivial, [], ⟨rfl, .inr ⟨w.heap.size, G, ROW, rfl, Nat.le_refl _, ?_, Nat.zero_le _, hM, hRs.out, by simp⟩⟩, Reps.none _ _⟩, ?_⟩
    · exact heap_alloc_new w _
    · exact below_drew (below_alloc (Below.refl _ _) _)
set_option maxHeartbeats 4000000 in
set_option maxRecDepth 100000 in
theorem concat_calls (g : Nat) (A0 : Option Addr) (c0 : Nat) (l0 : List S26) (A1 : Option Addr) (c1 : Nat) (l1 : List S26) (w : World) (hg : w.heap[g]? = some (.cells #[.slice A0 l0.length c0, .slice A1 l1.length c1] 27 (0, 0)))
    (hC0 : k26.C w A0 l0.length l0) (hC1 : k26.C w A1 l1.length l1) (h0 : l0.length ≤ 1000) (h1 : l1.length ≤ 1000) :
    Calls Try.prog 40 #[.slice (some ⟨g, 0, none⟩) 2 2] w fun e w' => ∃ v, e = .returned v ∧ Kd.R k26 26 w' w.heap.size (fun _ => True) v (l0 ++ l1) ∧ Below w.heap.size w w' := by
  have hgl := (Array.getElem?_eq_some_iff.1 hg).1
  have y0 : w.cell? ⟨g, 0, none⟩ = some (.slice A0 l0.length c0) := (blk_cell hg 0).trans rfl
  have y1 : w.cell? ⟨g, 1, none⟩ = some (.slice A1 l1.length c1) := (blk_cell hg 1).trans rfl
  go_enter Try.func40, Try.ntmps40
  go_wp2
  go_loopw [3, 11] (fun u v wr => w = wr ∧ ((v = .int .i64 0 ∧ u = .int .i64 0) ∨ (v = .int .i64 1 ∧ u = .int .i64 (l0.length : Int)) ∨ (v = .int .i64 2 ∧ u = .int .i64 ((l0.length : Int) + l1.length)))) (fun _ v _ => 2 - (intOf v).toNat)
  case atStart => exact ⟨rfl, .inl ⟨rfl, rfl⟩⟩
  case round =>
    obtain ⟨rfl, (⟨rfl, rfl⟩ | ⟨rfl, rfl⟩ | ⟨rfl, rfl⟩)⟩ := hrel
    · go_wp2
      go_roundw
      case rel => exact ⟨trivial, .inr (.inl ⟨rfl, by simp⟩)⟩
      case measure => simp [intOf]
    · go_wp2
      go_roundw
      case rel => exact ⟨trivial, .inr (.inr ⟨rfl, by simp⟩)⟩
      case measure => simp [intOf]
    · have hgr := grow_nil (l0.length + l1.length) (by omega) w
      rw [Int.natCast_add] at hgr
      go_wp2_with fail
      refine hgr.mono ?_
      rintro e w1 ⟨v, rfl, hR0, hB0⟩
      clear hgr
      go_wp2
      go_loopw [6, 27] (fun u v wx => ∃ (cur : List S26), Kd.R k26 26 wx w.heap.size (fun _ => True) u cur ∧ Below w.heap.size w wx ∧ ((v = .int .i64 0 ∧ cur = []) ∨ (v = .int .i64 1 ∧ cur = l0) ∨ (v = .int .i64 2 ∧ cur = l0 ++ l1))) (fun _ v _ => 2 - (intOf v).toNat)
      case atStart => exact ⟨[], hR0, hB0, .inl ⟨rfl, rfl⟩⟩
      case round =>
        clear hR0 hB0
        obtain ⟨cur, hR, hB, hcase⟩ := hrel
        rcases hcase with ⟨rfl, hcr⟩ | ⟨rfl, hcr⟩ | ⟨rfl, hcr⟩
        · have z0 := (Below.cell (p := ⟨g, 0, none⟩) hB hgl).trans y0
          have hcur : (cur.length + l0.length) * 24 ≤ 140737488355328 := by rw [hcr, List.length_nil]; omega
          have hCx := Kd.C_below hC0 hB
          replace hcur := hcur
          replace hcr := Lib.hid hcr
          clear y0 y1
          go_wp2_with ((with_reducible refine gate_builtin (b := .append) (xs := #[.tmp 31, .tmp 32]) rfl ?_); at_builtin; refine Kd.R_append_rows k26 (w0 := w) w.heap.size rfl (.tmp 31) (.tmp 32) 27 26 (.agg #[(.int .u64 0), (.string ⟨#[]⟩)]) 24 rfl Try.underlying27 info26 rfl (by show 0 < 2; omega) (by omega) _ cur l0 _ _ _ (fun _ => True) (fun _ => False) rfl rfl hR hCx (fun _ _ h => by obtain rfl := k26_open h; exact k26_mkM _ _ _ _) (fun _ h => h.elim) (fun _ _ => trivial) hB hB.size hcur ?_; intro v2 w2 ho hb hg hat; clear hg hat)
          go_roundw
          case rel => exact ⟨cur ++ l0, ho, hb, .inr (.inl ⟨rfl, by rw [hcr.out, List.nil_append]⟩)⟩
          case measure => simp [intOf]
        · have z1 := (Below.cell (p := ⟨g, 1, none⟩) hB hgl).trans y1
          have hcur : (cur.length + l1.length) * 24 ≤ 140737488355328 := by rw [hcr]; omega
          have hCx := Kd.C_below hC1 hB
          replace hcr := Lib.hid hcr
          clear y0 y1
          go_wp2_with ((with_reducible refine gate_builtin (b := .append) (xs := #[.tmp 31, .tmp 32]) rfl ?_); at_builtin; refine Kd.R_append_rows k26 (w0 := w) w.heap.size rfl (.tmp 31) (.tmp 32) 27 26 (.agg #[(.int .u64 0), (.string ⟨#[]⟩)]) 24 rfl Try.underlying27 info26 rfl (by show 0 < 2; omega) (by omega) _ cur l1 _ _ _ (fun _ => True) (fun _ => False) rfl rfl hR hCx (fun _ _ h => by obtain rfl := k26_open h; exact k26_mkM _ _ _ _) (fun _ h => h.elim) (fun _ _ => trivial) hB hB.size hcur ?_; intro v2 w2 ho hb hg hat; clear hg hat)
          go_roundw
          case rel => exact ⟨cur ++ l1, ho, hb, .inr (.inr ⟨rfl, by rw [hcr.out]⟩)⟩
          case measure => simp [intOf]
        · clear y0 y1
          subst hcr
          go_wp2
          go_ret
          exact ⟨_, rfl, hR, hB⟩
end Go.Proofs.Ytkomcddnfjbifaa.Q
