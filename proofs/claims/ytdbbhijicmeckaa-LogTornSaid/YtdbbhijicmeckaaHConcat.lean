/- slices.Concat of two rows of texts answers a row of its own with both, one behind the other.
   Conditions: the rows have at most 1000 texts each. -/
import Derived.Test.YtdbbhijicmeckaaHRec
import Derived.Shelf.Spec.SlicesGrow
namespace Go.Proofs.Ytdbbhijicmeckaa.Q
open Go.RowKit Go.Shelf Go.Proofs.YtdbbhijicmeckaaW.PrintWords Go.Proofs.YtdbbhijicmeckaaW.PrintLast Go.Proofs.YtdbbhijicmeckaaW.PrintMore
set_option linter.unusedVariables false
set_option linter.unusedSimpArgs false

def growRen : Ren := ⟨fun | 4 => 32 | n => n, fun | 25 => 9 | n => n, fun n => n⟩
theorem laysGrow : Lays8.n4 Try.prog growRen := {
  mixed := by kernel_rfl
  f4 := ⟨"slices.Grow[[]string,string]", by decide, Try.func32.trans (congrArg some (by kernel_rfl))⟩
  t0 := Try.underlying0
  a0 := Try.isAgg0
  z0 := Try.sizeOf0
  v0 := Try.zeroValue0
  t3 := Try.underlying3
  a3 := Try.isAgg3
  z3 := Try.sizeOf3
  v3 := Try.zeroValue3
  t4 := Try.underlying4
  a4 := Try.isAgg4
  z4 := Try.sizeOf4
  v4 := Try.zeroValue4
  t9 := Try.underlying9
  a9 := Try.isAgg9
  z9 := Try.sizeOf9
  v9 := Try.zeroValue9
  t20 := Try.underlying20
  a20 := Try.isAgg20
  z20 := Try.sizeOf20
  v20 := Try.zeroValue20
  t22 := Try.underlying22
  a22 := Try.isAgg22
  z22 := Try.sizeOf22
  v22 := Try.zeroValue22 }
/-- Grow of the nil row: a row of its own, of no texts. -/
theorem grow_nil (n : Nat) (hn : n ≤ 10000) (w : World) : Calls Try.prog 32 #[.slice none 0 0, .int .i64 n] w fun e w' => ∃ v, e = .returned v ∧ w'.ownsRow w.heap.size 9 1 v 0 [] ∧ Below w.heap.size w w' := by
  rcases Nat.eq_zero_or_pos n with h | h
  · subst h
    refine (Any8.slices_Grow_room laysGrow none 0 0 0 w (Nat.le_refl _) (by omega) (by omega) (by omega)).mono ?_
    rintro e w' ⟨rfl, rfl⟩
    exact ⟨_, rfl, World.ownsRow_nil _ _ _ _, Below.refl _ _⟩
  · obtain ⟨i0, hi, hz0, hz1, hz2⟩ := info_parts info_str
    refine (Any8.slices_Grow_grow laysGrow i0 (.string ⟨#[]⟩) hi hz0 (by omega) none 0 0 n [] w (Nat.le_refl _) (by omega) (by rw [hz2]; omega) (by omega) (by simp) (fun _ => rfl) (fun a h => by cases h)).mono ?_
    rintro e w' ⟨rfl, rfl⟩
    have hG := grownCap_ge w (0 + n) 0 9
    have hM := grownCap_le_maxLen w (0 + n) 0 9 (by unfold maxLen; omega)
    refine ⟨_, rfl, ⟨by simp, .inr ⟨w.heap.size, _, _, rfl, Nat.le_refl _, heap_alloc_new w.drew _, Nat.zero_le _, hM, ?_, by simp⟩⟩, below_alloc (below_drew1 (Below.refl _ _)) _⟩
    show (#[] ++ Builtin.zeroCells (Value.string ⟨#[]⟩).cells (0 + n - 0) ++ Builtin.zeroCells (Value.string ⟨#[]⟩).cells (grownCap w (0 + n) 0 9 - (0 + n))).size = grownCap w (0 + n) 0 9 * 1
    have hz : (Value.string ⟨#[]⟩).cells.size = 1 := rfl
    simp [Builtin.zeroCells, hz]
    have hG' : n ≤ grownCap w n 0 9 := by simpa using hG
    omega
theorem row_append {w : World} {base : Nat} {v : Value} {xs : List ByteArray} (hown : w.ownsRow base 9 1 v xs.length (xs.map Value.string)) (A : Option Addr) (c : Nat) (l : List ByteArray) (hC : Kd.C Kd.string w A l.length l) (h1 : xs.length + l.length ≤ 100000) (hb : base ≤ w.heap.size) :
    ∃ v' w', (Builtin.append_ #[22, 22] 22 #[v, .slice A l.length c]).run Try.prog w = .ok v' w' ∧ w'.ownsRow base 9 1 v' (xs ++ l).length ((xs ++ l).map Value.string) ∧ w.grownBy w' v.ownBlock := by
  obtain ⟨i0, hi, hz0, hz1, hz2⟩ := info_parts info_str
  cases A with
  | none =>
    have h0 : l = [] := by
      rcases Nat.eq_zero_or_pos l.length with h | h
      · exact List.eq_nil_of_length_eq_zero h
      · obtain ⟨ad, h', _⟩ := hC.2.2 h
        cases h'
    subst h0
    refine ⟨v, w, ?_, by rw [List.append_nil]; exact hown, ⟨rfl, rfl, rfl, Nat.le_refl _, fun _ _ _ => rfl⟩⟩
    rcases hown.2 with ⟨rfl, hx⟩ | ⟨g, cap, cur, rfl, _, _, hnc, _⟩
    · rw [List.length_nil]
      simp [Builtin.append_, run_underlying Try.underlying22, sizeOf, typeInfo, hi, Builtin.lenOf, Builtin.firstCells]
    · rw [List.length_nil]
      simp [Builtin.append_, run_underlying Try.underlying22, sizeOf, typeInfo, hi, Builtin.lenOf, Builtin.firstCells, hnc, storeCells]
  | some ad =>
    obtain ⟨v', w', hrun, ho, hg, _⟩ := run_append_own (P := Try.prog) w base 22 22 9 i0 (.string ⟨#[]⟩) 1 16 Try.underlying22 hi hz0 hz1 hz2 rfl (by decide) v xs.length (xs.map Value.string) hown ad l.length c (l.map Value.string) (by simp)
      (fun j u hj => by
        have hlt : j < l.length := by have := (List.getElem?_eq_some_iff.1 hj).1; simpa using this
        obtain ⟨ad', e', hc⟩ := Kd.at_string hC (j : Int) (by omega) (by omega)
        cases e'
        rw [Int.toNat_natCast] at hc
        rw [List.getElem?_map, List.getElem?_eq_getElem hlt] at hj
        injection hj with hj
        rw [hc, ← hj]
        simp [rdOf, hlt])
      (fun u hu => by obtain ⟨x, _, rfl⟩ := List.mem_map.1 hu; rfl) (by unfold maxLen; omega) (by omega) hb
    exact ⟨v', w', hrun, by rw [List.length_append, List.map_append]; exact ho, hg⟩
theorem wpList_append_list {ops : Array Oper} {rest : List Oper} {o : Oper} {a : Act} {Q : Exit → Act → World → Prop} (w : World) (hgd : o.guard = none) (s x : Operand)
    (ho : o.op = .call { callee := .builtin .append, args := #[s, x], argTypes := #[22, 22] }) (hty : o.type = 22)
    {base : Nat} {v : Value} {xs : List ByteArray} (hs : a.eval s = v) (hown : w.ownsRow base 9 1 v xs.length (xs.map Value.string)) (A : Option Addr) (c : Nat) (l : List ByteArray) (hx : a.eval x = .slice A l.length c) (hC : Kd.C Kd.string w A l.length l)
    (h1 : xs.length + l.length ≤ 100000) (hb : base ≤ w.heap.size)
    (h : ∀ v' w', w'.ownsRow base 9 1 v' (xs ++ l).length ((xs ++ l).map Value.string) → w.grownBy w' v.ownBlock → wpList Try.prog ops Q rest (a.put o.dst v') w') : wpList Try.prog ops Q (o :: rest) a w := by
  refine wpList_plain hgd fun K hK => ?_
  obtain ⟨v', w', hrun, h2, h3⟩ := row_append hown A c l hC h1 hb
  have := hK _ _ (h v' w' h2 h3)
  unfold Oper.wp
  simp [execOp, ho, resolve, invoke, builtin, hs, hx, hty, hrun, Result.andThen]
  exact this
set_option maxHeartbeats 4000000 in
set_option maxRecDepth 100000 in
theorem concat_calls (g : Nat) (A0 : Option Addr) (c0 : Nat) (l0 : List ByteArray) (A1 : Option Addr) (c1 : Nat) (l1 : List ByteArray) (w : World) (hg : w.heap[g]? = some (.cells #[.slice A0 l0.length c0, .slice A1 l1.length c1] 22 (0, 0)))
    (hC0 : Kd.C Kd.string w A0 l0.length l0) (hC1 : Kd.C Kd.string w A1 l1.length l1) (h0 : l0.length ≤ 1000) (h1 : l1.length ≤ 1000) :
    Calls Try.prog 24 #[.slice (some ⟨g, 0, none⟩) 2 2] w fun e w' => ∃ A c, e = .returned (.slice A (l0 ++ l1).length c) ∧ (l0 ++ l1).length ≤ c ∧ Kd.C Kd.string w' A (l0 ++ l1).length (l0 ++ l1) ∧ Below w.heap.size w w' := by
  have hgl := (Array.getElem?_eq_some_iff.1 hg).1
  have y0 : w.cell? ⟨g, 0, none⟩ = some (.slice A0 l0.length c0) := (blk_cell hg 0).trans rfl
  have y1 : w.cell? ⟨g, 1, none⟩ = some (.slice A1 l1.length c1) := (blk_cell hg 1).trans rfl
  go_enter Try.func24, Try.ntmps24
  go_wp2
  go_loopw [3, 11] (fun u v wr => w = wr ∧ ((v = .int .i64 0 ∧ u = .int .i64 0) ∨ (v = .int .i64 1 ∧ u = .int .i64 (l0.length : Int)) ∨ (v = .int .i64 2 ∧ u = .int .i64 ((l0.length : Int) + l1.length)))) (fun _ v _ => 2 - (intOf v).toNat)
  case atStart => exact ⟨rfl, .inl ⟨rfl, rfl⟩⟩
  case round =>
    obtain ⟨rfl, (⟨rfl, rfl⟩ | ⟨rfl, rfl⟩ | ⟨rfl, rfl⟩)⟩ := hrel
    · go_wp2
      go_roundw
      case rel => exact ⟨trivial, .inr (.inl ⟨rfl, by simp⟩)⟩
      case measure => simp [intOf]
    · go_wp2
      go_roundw
      case rel => exact ⟨trivial, .inr (.inr ⟨rfl, by simp⟩)⟩
      case measure => simp [intOf]
    · have hgr := grow_nil (l0.length + l1.length) (by omega) w
      rw [Int.natCast_add] at hgr
      go_wp2_with fail
      refine hgr.mono ?_
      rintro e w1 ⟨v, rfl, hR0, hB0⟩
      clear hgr
      go_wp2
      go_loopw [6, 27] (fun u v wx => ∃ (cur : List ByteArray), wx.ownsRow w.heap.size 9 1 u cur.length (cur.map Value.string) ∧ Below w.heap.size w wx ∧ ((v = .int .i64 0 ∧ cur = []) ∨ (v = .int .i64 1 ∧ cur = l0) ∨ (v = .int .i64 2 ∧ cur = l0 ++ l1))) (fun _ v _ => 2 - (intOf v).toNat)
      case atStart => exact ⟨[], hR0, hB0, .inl ⟨rfl, rfl⟩⟩
      case round =>
        clear hR0 hB0
        obtain ⟨cur, hR, hB, (⟨rfl, rfl⟩ | ⟨rfl, rfl⟩ | ⟨rfl, rfl⟩)⟩ := hrel
        · have z0 := (Below.cell (p := ⟨g, 0, none⟩) hB hgl).trans y0
          clear y0 y1
          go_wp2_with (at_builtin; go_loud (refine wpList_append_list _ rfl _ _ rfl rfl rfl hR A0 c0 l0 rfl (Kd.C_below hC0 hB) (by first | omega | (simp; omega)) (Nat.le_trans ?hb hB.size) ?_); (case hb => exact Nat.le_refl _); intro v' w2 hR2 hg2; have hB2 : Below w.heap.size w w2 := pw_below_grown hB _ hB.size hg2 (fun k hk => own_base hR k hk))
          go_roundw
          case rel => exact ⟨l0, by simpa using hR2, hB2, .inr (.inl ⟨rfl, rfl⟩)⟩
          case measure => simp [intOf]
        · have z1 := (Below.cell (p := ⟨g, 1, none⟩) hB hgl).trans y1
          clear y0 y1
          go_wp2_with (at_builtin; go_loud (refine wpList_append_list _ rfl _ _ rfl rfl rfl hR A1 c1 l1 rfl (Kd.C_below hC1 hB) (by first | omega | (simp; omega)) (Nat.le_trans ?hb hB.size) ?_); (case hb => exact Nat.le_refl _); intro v' w2 hR2 hg2; have hB2 : Below w.heap.size w w2 := pw_below_grown hB _ hB.size hg2 (fun k hk => own_base hR k hk))
          go_roundw
          case rel => exact ⟨cur ++ l1, hR2, hB2, .inr (.inr ⟨rfl, rfl⟩)⟩
          case measure => simp [intOf]
        · clear y0 y1
          obtain ⟨A, c, rfl, hc, hC⟩ := row_of_own hR
          go_wp2
          go_ret
          exact ⟨A, c, rfl, hc, hC, hB⟩
end Go.Proofs.Ytdbbhijicmeckaa.Q
