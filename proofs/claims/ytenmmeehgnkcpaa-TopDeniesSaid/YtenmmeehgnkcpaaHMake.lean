/- client.Make at fixed values, and demurraltop's alive. -/
import Derived.Test.YtenmmeehgnkcpaaHAdd
namespace Go.Proofs.Ytenmmeehgnkcpaa.Q
open Go.RowKit Go.Proofs.YtenmmeehgnkcpaaW.PrintWords Go.Proofs.YtenmmeehgnkcpaaW.PrintLast Go.Proofs.YtenmmeehgnkcpaaW.PrintMore
set_option linter.unusedVariables false
set_option linter.unusedSimpArgs false

theorem wpList_insert_run {P : Program} {ops : Array Oper} {rest : List Oper} {o : Oper} {a : Act} {Q : Exit → Act → World → Prop} {W W' : World} (hN : o.dst = none) (hgd : o.guard = none) (t : TypeId) (m x v : Operand) (ho : o.op = .insert t m x v) {vm vx vv : Value}
    (hm : a.eval m = vm) (hx : a.eval x = vx) (hv : a.eval v = vv) (hrun : (Instr.mapUpdate t vm vx vv).run P W = .ok () W') (h : wpList P ops Q rest a W') : wpList P ops Q (o :: rest) a W := by
  refine wpList_plain hgd fun K hK => ?_
  unfold Oper.wp execOp
  simp only [ho, hm, hx, hv, Sem.run_bind, Sem.run_pure, Result.andThen_ok, hrun]
  show K (a.put o.dst undef) _
  rw [hN]
  exact hK _ _ h
theorem insert_first {W : World} {b clock : Nat} (hb : W.heap[b]? = some (.map #[] clock)) : ∃ W', (Instr.mapUpdate 98 (.map (some b)) (.int .u64 0) (.int .i64 1)).run Try.prog W = .ok () W' ∧ W.grownBy W' (some b) := by
  have hf : Instr.findNow (.int .u64) (.int .u64 0) ([] : List MapEntry) 0 = some none := rfl
  have hc : (Instr.checkKey false 10000 22 (.int .u64 0)).run Try.prog W = .ok () W := MapKept.run_checkKey (k := .int .u64 0) Try.underlying22 (by simp [MapKept.IsKey]) false 9999
  refine ⟨{ W with heap := W.heap.setIfInBounds b (.map #[{ key := .int .u64 0, val := .int .i64 1, born := clock }] (clock + 1)) }, ?_, ?_⟩
  · simp [Instr.mapUpdate, run_underlying Try.underlying98, MapKept.run_getObj_map hb, hc, MapKept.run_findKey Try.underlying22 hf, MapKept.run_setObj_map _ hb, Result.andThen]
  · exact ⟨rfl, rfl, rfl, by simp, fun k _ hk => by simp only [Array.getElem?_setIfInBounds]; rw [if_neg]; intro e; exact hk (by rw [e])⟩
set_option maxHeartbeats 1000000 in
set_option maxRecDepth 100000 in
theorem make_calls (key : ByteArray) (hk : key.size = 32) (w : World) :
    Calls Try.prog 43 #[.int .u64 2, .string key, .agg #[.int .u64 1, .string key], .slice none 0 0] w fun e w' => e = .returned (.tuple #[.agg #[.int .u64 2, .string key, .int .u64 1, .string key, .slice none 0 0, .slice none 0 0, .int .u64 0, .slice none 0 0], .int .i64 0]) ∧ Below w.heap.size w w' := by
  have hmm := @run_makeMap Try.prog
  obtain ⟨w1, hw1⟩ : ∃ w1, w.alloc (.cells #[.int .u64 1, .string key] 69 (0, 0)) = w1 := ⟨_, rfl⟩
  have hb1 : Below w.heap.size w w1 := by rw [← hw1]; exact below_alloc (Below.refl _ _) _
  have hK1 : w1.heap[w.heap.size]? = some (.cells #[.int .u64 1, .string key] 69 (0, 0)) := by rw [← hw1]; exact heap_alloc_new _ _
  obtain ⟨w2, hw2⟩ : ∃ w2, w1.alloc (.cells #[.int .u64 0, .string ⟨#[]⟩, .int .u64 0, .string ⟨#[]⟩, .slice none 0 0, .slice none 0 0, .int .u64 0, .slice none 0 0] 74 (0, 0)) = w2 := ⟨_, rfl⟩
  have hK2 : w2.heap[w1.heap.size]? = some (.cells #[.int .u64 0, .string ⟨#[]⟩, .int .u64 0, .string ⟨#[]⟩, .slice none 0 0, .slice none 0 0, .int .u64 0, .slice none 0 0] 74 (0, 0)) := by rw [← hw2]; exact heap_alloc_new _ _
  have hb2 : Below w1.heap.size w1 w2 := by rw [← hw2]; exact below_alloc (Below.refl _ _) _
  obtain ⟨x0, x1⟩ := box2 ((hb2.block _ (blk_lt hK1)).trans hK1)
  obtain ⟨w3, hw3⟩ : ∃ w3, w2.alloc (.cells #[.int .u64 0, .string key, .int .u64 1, .string key] 69 (0, 0)) = w3 := ⟨_, rfl⟩
  have hb3 : Below w2.heap.size w2 w3 := by rw [← hw3]; exact below_alloc (Below.refl _ _) _
  have hK3 : w3.heap[w2.heap.size]? = some (.cells #[.int .u64 0, .string key, .int .u64 1, .string key] 69 (0, 0)) := by rw [← hw3]; exact heap_alloc_new _ _
  go_enter Try.func43, Try.ntmps43
  go_wp2
  go_loopw [22] (fun v wr => ∃ i : Nat, i ≤ 2 ∧ v = .int .i64 (i : Int) ∧ Below w3.heap.size w3 wr) (fun v _ => 2 - (intOf v).toNat)
  case atStart => exact ⟨0, by omega, rfl, Below.refl _ _⟩
  case round =>
    obtain ⟨i, hi, rfl, hB⟩ := hrel
    by_cases hlt : (i : Int) < 2
    · obtain ⟨r0, r1, r2, r3⟩ := box4 ((hB.block _ (blk_lt hK3)).trans hK3)
      have hksz : (key.size : Int) = 32 := by omega
      obtain ⟨w4, hw4⟩ : ∃ w4, wr.alloc (.cells #[.int .u64 0, .string ⟨#[]⟩] 69 (0, 0)) = w4 := ⟨_, rfl⟩
      have hK4 : w4.heap[wr.heap.size]? = some (.cells #[.int .u64 0, .string ⟨#[]⟩] 69 (0, 0)) := by rw [← hw4]; exact heap_alloc_new _ _
      have hb4 : Below wr.heap.size wr w4 := by rw [← hw4]; exact below_alloc (Below.refl _ _) _
      have hi2 : i = 0 ∨ i = 1 := by omega
      rcases hi2 with rfl | rfl
      · go_wp2_with ((with_reducible refine gate_store (t := 69) (p := 11) rfl ?_); go_loud (refine wpList_storeBox rfl rfl 69 (.tmp 11) (.tmp 25) rfl (.agg #[.int .u64 0, .string key]) [.int .u64 0, .string key] rfl rfl rfl (by kernel_rfl) (by simp [Value.oneCell']) hK4 rfl ?_); intro w5 hK5 hg5 hs5; obtain ⟨y0, y1⟩ := box2 hK5)
        have hB5 := hB.trans ((hb4.grown hg5 hb4.size (fun k hk => by cases hk; exact Nat.le_refl _)).mono hB.size)
        go_roundw
        case rel => exact ⟨1, by omega, by go_num, hB5⟩
        case measure => simp [intOf]
      · go_wp2_with ((with_reducible refine gate_store (t := 69) (p := 11) rfl ?_); go_loud (refine wpList_storeBox rfl rfl 69 (.tmp 11) (.tmp 25) rfl (.agg #[.int .u64 1, .string key]) [.int .u64 1, .string key] rfl rfl rfl (by kernel_rfl) (by simp [Value.oneCell']) hK4 rfl ?_); intro w5 hK5 hg5 hs5; obtain ⟨y0, y1⟩ := box2 hK5)
        have hB5 := hB.trans ((hb4.grown hg5 hb4.size (fun k hk => by cases hk; exact Nat.le_refl _)).mono hB.size)
        go_roundw
        case rel => exact ⟨2, by omega, by go_num, hB5⟩
        case measure => simp [intOf]
    · obtain rfl : i = 2 := by omega
      obtain ⟨w5, hrun5, hg5⟩ := insert_first (heap_alloc_new wr (.map #[] 0))
      have hB5 : Below w3.heap.size w3 w5 := hB.trans (((below_alloc (Below.refl wr.heap.size wr) (.map #[] 0)).grown hg5 (by simp) (fun k hk => by cases hk; exact Nat.le_refl _)).mono hB.size)
      have hK5 := (hB5.block _ (Nat.lt_of_lt_of_le (blk_lt hK2) hb3.size)).trans ((hb3.block _ (blk_lt hK2)).trans hK2)
      obtain ⟨y0, y1⟩ := box2 ((hB5.block _ (Nat.lt_of_lt_of_le (Nat.lt_of_lt_of_le (blk_lt hK1) hb2.size) hb3.size)).trans ((hb3.block _ (Nat.lt_of_lt_of_le (blk_lt hK1) hb2.size)).trans ((hb2.block _ (blk_lt hK1)).trans hK1)))
      clear x0 x1
      replace hB5 := Aside0.mk ((hb1.trans (hb2.mono hb1.size)).trans ((hb3.mono (Nat.le_trans hb1.size hb2.size)).trans (hB5.mono (Nat.le_trans (Nat.le_trans hb1.size hb2.size) hb3.size))))
      have hle := Lib.hid hb1.size
      clear hB hK1 hK2 hK3 hb1 hb2 hb3 hg5
      go_wp2_with fail
      clear hrun5
      go_loopw [36] (fun v wx => v = .int .i64 0 ∧ wx = w5) (fun _ _ => 0)
      case atStart => exact ⟨rfl, rfl⟩
      case round =>
        obtain ⟨rfl, rfl⟩ := hrel
        go_wp2_with ((with_reducible refine gate_store (t := 74) (p := 8) rfl ?_); go_loud (refine wpList_storeBox rfl rfl 74 (.tmp 8) (.tmp 61) rfl (.agg #[.int .u64 2, .string key, .int .u64 1, .string key, .slice none 0 0, .slice none 0 0, .int .u64 0, .slice none 0 0]) [.int .u64 2, .string key, .int .u64 1, .string key, .slice none 0 0, .slice none 0 0, .int .u64 0, .slice none 0 0] rfl rfl rfl (by kernel_rfl) (by simp [Value.oneCell']) hK5 rfl ?_); intro w6 hK6 hg6 hs6)
        have hB6 := Aside0.mk (hB5.out.grown hg6 hB5.out.size (fun k hk => by injection hk with hk; have := hle.out; omega))
        replace hK6 := Aside0.mk hK6
        clear hg6 hs6 hK5 y0 y1
        go_wp2
        refine bodyPost_ret (results_ct rfl _ _ w1.heap.size 74 _ (0, 0) _ rfl hK6.out Try.underlying74 rfl (by kernel_rfl)) rfl ?_
        exact ⟨rfl, hB6.out⟩
def keyB : ByteArray := ⟨#[48, 49, 50, 51, 52, 53, 54, 55, 56, 57, 97, 98, 99, 100, 101, 102, 48, 49, 50, 51, 52, 53, 54, 55, 56, 57, 97, 98, 99, 100, 101, 102]⟩
theorem topadd_calls (w : World) : Calls Try.prog 14 #[.slice none 0 0, .agg #[.int .i64 0, .int .u64 7, .int .i64 0, .int .i64 0]] w fun e w' => (∃ B d, e = .returned (.tuple #[.slice B 1 d, .int .i64 0, .int .i64 0])) ∧ Below w.heap.size w w' := by
  refine (add_calls none 0 [] ⟨0, 7, 0, 0⟩ w (Kd.C_nil _ _) (Nat.le_refl _) (by simp) (by simp)).mono ?_
  rintro e w' ⟨⟨B, d, m, i, q, h1, rfl, h3, h4, _⟩, hb⟩
  rw [show addR [] ⟨0, 7, 0, 0⟩ = ([⟨0, 7, 0, 0⟩], 0, 0) from by kernel_rfl] at h1
  injection h1 with e1 h1
  injection h1 with e2 e3
  subst e1 e2 e3
  exact ⟨⟨B, d, rfl⟩, hb⟩
set_option maxHeartbeats 1000000 in
set_option maxRecDepth 100000 in
theorem topalive_calls (w : World) : Calls Try.prog 12 #[] w fun e w' => e = .returned (.bool true) ∧ Below w.heap.size w w' := by
  have hm := make_calls keyB (by kernel_rfl) w
  unfold keyB at hm
  replace hm := Aside0.mk hm
  go_enter Try.func12, Try.ntmps12
  go_wp2_with fail
  refine hm.out.mono ?_; rintro e_ w1 ⟨rfl, hb1⟩
  obtain ⟨w2, hw2⟩ : ∃ w2, w1.alloc (.cells #[.int .u64 0, .string ⟨#[]⟩, .int .u64 0, .string ⟨#[]⟩, .slice none 0 0, .slice none 0 0, .int .u64 0, .slice none 0 0] 74 (0, 0)) = w2 := ⟨_, rfl⟩
  have hK2 : w2.heap[w1.heap.size]? = some (.cells #[.int .u64 0, .string ⟨#[]⟩, .int .u64 0, .string ⟨#[]⟩, .slice none 0 0, .slice none 0 0, .int .u64 0, .slice none 0 0] 74 (0, 0)) := by rw [← hw2]; exact heap_alloc_new _ _
  have hb2 : Below w1.heap.size w1 w2 := by rw [← hw2]; exact below_alloc (Below.refl _ _) _
  clear hm
  have hcall := Aside0.mk (fun W => topadd_calls W)
  go_wp2_with ((with_reducible refine gate_store (t := 74) (p := 1) rfl ?_); go_loud (refine wpList_storeBox rfl rfl 74 (.tmp 1) (.tmp 9) rfl (.agg #[.int .u64 2, .string _, .int .u64 1, .string _, .slice none 0 0, .slice none 0 0, .int .u64 0, .slice none 0 0]) [.int .u64 2, .string _, .int .u64 1, .string _, .slice none 0 0, .slice none 0 0, .int .u64 0, .slice none 0 0] rfl rfl rfl (by kernel_rfl) (by simp [Value.oneCell']) hK2 rfl ?_); intro w3 hK3 hg3 hs3)
  have hB3 := Aside0.mk (hb1.trans ((hb2.grown hg3 hb2.size (fun k hk => by injection hk with hk; omega)).mono hb1.size))
  refine (hcall.out _).mono ?_; rintro e_ w4 ⟨⟨B, d, rfl⟩, hb4⟩
  have z0 := (blk_cell ((hb4.block _ (blk_lt hK3)).trans hK3) 0)
  simp only [List.getElem?_toArray, List.getElem?_cons_zero] at z0
  have hB4 := Aside0.mk (below_step hB3.out hb4)
  clear hcall hK3 hb4 hg3 hs3 hB3 hb2 hb1 hK2
  go_wp2
  go_ret
  exact ⟨rfl, hB4.out⟩
end Go.Proofs.Ytenmmeehgnkcpaa.Q
