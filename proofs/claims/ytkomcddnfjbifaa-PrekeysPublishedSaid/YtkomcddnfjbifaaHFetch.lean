/- prekeys.Fetch: a user's shelf with one one-time point at most, and the shelves without it.
   Conditions: the list is read as shelves, and its points' numbers are of 64 bits. -/
import Derived.Test.YtkomcddnfjbifaaHBox
import Derived.Handy
namespace Go.Proofs.Ytkomcddnfjbifaa.Q
open Go.RowKit Go.Proofs.YtkomcddnfjbifaaW.PrintWords Go.Proofs.YtkomcddnfjbifaaW.PrintLast Go.Proofs.YtkomcddnfjbifaaW.PrintMore
set_option linter.unusedVariables false
set_option linter.unusedSimpArgs false

attribute [local go_sem] max2_int min2_int max_two min_two max_three min_three max_four min_four
abbrev box29 (x : S29) (A : Option Addr) (n c : Nat) : Obj := .cells #[.int .u64 x.f0, .string x.f1, .int .u64 x.f2.f0, .string x.f2.f1, .slice A n c] 29 (0, 0)
set_option maxHeartbeats 1000000 in
set_option maxRecDepth 100000 in
theorem fetch1_calls (x : S29) (A : Option Addr) (c : Nat) (gn : Nat) (n : Nat) (w : World) (hn : n ≤ x.f3.length) (hc : x.f3.length ≤ c) (hgn : gn < w.heap.size) (hcell : w.cell? ⟨gn, 0, none⟩ = some (.int .i64 (n : Int))) :
    Calls Try.prog 31 #[sv x A c, .pointer (some ⟨gn, 0, none⟩)] w fun e w' => e = .returned (.agg #[.int .u64 x.f0, .string x.f1, .int .u64 x.f2.f0, .string x.f2.f1, .slice (if c = n then A else A.map (·.add (n * 2))) (x.f3.length - n) (c - n)]) ∧ Below w.heap.size w w' := by
  obtain ⟨i0, hi0, _, hsz, _⟩ := info_parts info26
  have hcut := cut_from (P := Try.prog) 27 26 .i64 Try.underlying27 hi0 2 hsz A x.f3.length c (n : Int) (by omega) (by omega)
  rw [Int.toNat_natCast] at hcut
  generalize hB : (if c = n then A else A.map (·.add (n * 2))) = B at hcut ⊢
  replace hB := Lib.hid hB
  clear hi0
  obtain ⟨w1, hw1⟩ : ∃ w1, w.alloc (box29 x A x.f3.length c) = w1 := ⟨_, rfl⟩
  have hb1 : Below w.heap.size w w1 := by rw [← hw1]; exact below_alloc (Below.refl _ _) _
  have hs1 : w1.heap.size = w.heap.size + 1 := by rw [← hw1]; simp
  have hK1 : w1.heap[w.heap.size]? = some (box29 x A x.f3.length c) := by rw [← hw1]; exact heap_alloc_new _ _
  obtain ⟨w2, hw2⟩ : ∃ w2, w1.alloc (.cells #[.int .u64 0, .string ⟨#[]⟩, .int .u64 0, .string ⟨#[]⟩, .slice none 0 0] 29 (0, 0)) = w2 := ⟨_, rfl⟩
  have hb2 : Below w1.heap.size w1 w2 := by rw [← hw2]; exact below_alloc (Below.refl _ _) _
  have hK2 : w2.heap[w.heap.size + 1]? = some (.cells #[.int .u64 0, .string ⟨#[]⟩, .int .u64 0, .string ⟨#[]⟩, .slice none 0 0] 29 (0, 0)) := by rw [← hs1, ← hw2]; exact heap_alloc_new _ _
  have hK12 : w2.heap[w.heap.size]? = some (box29 x A x.f3.length c) := (hb2.block _ (by omega)).trans hK1
  have z4 : w2.cell? ⟨w.heap.size, 4, none⟩ = some (.slice A x.f3.length c) := (blk_cell hK12 4).trans rfl
  have f4 := blk_frozen hK12 4
  have zn : w2.cell? ⟨gn, 0, none⟩ = some (.int .i64 (n : Int)) := (Below.cell (below_step hb1 hb2) hgn).trans hcell
  have hK13 := blk_put hK12 4 (.slice B (x.f3.length - n) (c - n)) rfl
  have hK23 := blk_far hK2 (p := ⟨w.heap.size, 4, none⟩) (by simp) (.slice B (x.f3.length - n) (c - n))
  have hb3 : w2.grownBy (w2.setCell ⟨w.heap.size, 4, none⟩ (.slice B (x.f3.length - n) (c - n))) (some w.heap.size) := ⟨rfl, rfl, rfl, by simp [World.setCell], fun k _ hk => Below.heap_setCell w2 _ _ k (fun e => hk (by rw [e]))⟩
  generalize hw3 : w2.setCell ⟨w.heap.size, 4, none⟩ (.slice B (x.f3.length - n) (c - n)) = w3 at hK13 hK23 hb3
  have y0 : w3.cell? ⟨w.heap.size, 0, none⟩ = some (.int .u64 x.f0) := (blk_cell hK13 0).trans rfl
  have y1 : w3.cell? ⟨w.heap.size, 1, none⟩ = some (.string x.f1) := (blk_cell hK13 1).trans rfl
  have y2 : w3.cell? ⟨w.heap.size, 2, none⟩ = some (.int .u64 x.f2.f0) := (blk_cell hK13 2).trans rfl
  have y3 : w3.cell? ⟨w.heap.size, 3, none⟩ = some (.string x.f2.f1) := (blk_cell hK13 3).trans rfl
  have y4 : w3.cell? ⟨w.heap.size, 4, none⟩ = some (.slice B (x.f3.length - n) (c - n)) := (blk_cell hK13 4).trans rfl
  have hB3 : Below w.heap.size w w3 := pw_below_grown (below_step hb1 hb2) w.heap.size (below_step hb1 hb2).size hb3 (fun k hk => by cases hk; exact Nat.le_refl _)
  clear hK1 hcell hK12 hK13 hb3 hK2
  go_enter Try.func31, Try.ntmps31
  go_wp2_with ((with_reducible refine gate_store (t := 29) (p := 3) rfl ?_); go_loud (refine wpList_storeBox rfl rfl 29 (.tmp 3) (.tmp 9) rfl (.agg #[.int .u64 x.f0, .string x.f1, .int .u64 x.f2.f0, .string x.f2.f1, .slice B (x.f3.length - n) (c - n)]) [.int .u64 x.f0, .string x.f1, .int .u64 x.f2.f0, .string x.f2.f1, .slice B (x.f3.length - n) (c - n)] rfl rfl rfl (by kernel_rfl) (by simp [Value.oneCell']) hK23 rfl ?_); intro w4 hK4 hg4 hs4)
  have hB4 : Below w.heap.size w w4 := pw_below_grown hB3 _ hB3.size hg4 (fun k hk => by cases hk; omega)
  clear y0 y1 y2 y3 y4 hB3 hK23
  have y0 : w4.cell? ⟨w.heap.size + 1, 0, none⟩ = some (.int .u64 x.f0) := (blk_cell hK4 0).trans rfl
  have y1 : w4.cell? ⟨w.heap.size + 1, 1, none⟩ = some (.string x.f1) := (blk_cell hK4 1).trans rfl
  have y2 : w4.cell? ⟨w.heap.size + 1, 2, none⟩ = some (.int .u64 x.f2.f0) := (blk_cell hK4 2).trans rfl
  have y3 : w4.cell? ⟨w.heap.size + 1, 3, none⟩ = some (.string x.f2.f1) := (blk_cell hK4 3).trans rfl
  have y4 : w4.cell? ⟨w.heap.size + 1, 4, none⟩ = some (.slice B (x.f3.length - n) (c - n)) := (blk_cell hK4 4).trans rfl
  refine bodyPost_ret (v := .agg #[.int .u64 x.f0, .string x.f1, .int .u64 x.f2.f0, .string x.f2.f1, .slice B (x.f3.length - n) (c - n)]) (by simp [results, Try.results31, go_sem, y0, y1, y2, y3, y4]) rfl ?_
  exact ⟨rfl, hB4⟩
abbrev zer29 : Value := .agg #[.int .u64 0, .string ⟨#[]⟩, .int .u64 0, .string ⟨#[]⟩, .slice none 0 0]
/-- What prekeys.Fetch answers. -/
def FetchE (l : List S29) (u : Int) (e : Ending) (w' : World) : Prop :=
  (rightB l = false ∧ e = .returned (.tuple #[.slice none 0 0, zer29, .int .i64 1])) ∨
  (rightB l = true ∧ (∀ k : Nat, k < l.length → (rd_T29 l (k : Int)).f0 ≠ u) ∧ e = .returned (.tuple #[.slice none 0 0, zer29, .int .i64 5])) ∨
  (rightB l = true ∧ ∃ (i : Nat) (x : S29) (A : Option Addr) (c : Nat) (B : Option Addr) (c' : Nat), i < l.length ∧ rd_T29 l (i : Int) = x ∧ x.f0 = u ∧
    e = .returned (.tuple #[.slice A l.length c, sv { x with f3 := x.f3.take 1 } B c', .int .i64 0]) ∧ l.length ≤ c ∧ k29.C w' A l.length (l.set i { x with f3 := x.f3.drop 1 }) ∧
    (x.f3.take 1).length ≤ c' ∧ k26.C w' B (x.f3.take 1).length (x.f3.take 1))
set_option maxHeartbeats 4000000 in
set_option maxRecDepth 100000 in
theorem fetch_calls (A0 : Option Addr) (c0 : Nat) (l0 : List S29) (u : Int) (w : World) (hr0 : Kd.C k29 w A0 l0.length l0) (hc0 : l0.length ≤ c0) (hlen : l0.length ≤ 1000000) (hwf : ∀ s ∈ l0, ∀ p ∈ s.f3, (Lit.int .u64 p.f0).wf = true) :
    Calls Try.prog 9 #[.slice A0 l0.length c0, .int .u64 u] w fun e w' => FetchE l0 u e w' ∧ Below w.heap.size w w' := by
  obtain ⟨w1, hw1⟩ : ∃ w1, w.alloc (.cells #[.int .u64 0, .string ⟨#[]⟩, .int .u64 0, .string ⟨#[]⟩, .slice none 0 0] 29 (0, 0)) = w1 := ⟨_, rfl⟩
  have hb1 : Below w.heap.size w w1 := by rw [← hw1]; exact below_alloc (Below.refl _ _) _
  have hs1 : w1.heap.size = w.heap.size + 1 := by rw [← hw1]; simp
  have hK1 : w1.heap[w.heap.size]? = some (.cells #[.int .u64 0, .string ⟨#[]⟩, .int .u64 0, .string ⟨#[]⟩, .slice none 0 0] 29 (0, 0)) := by rw [← hw1]; exact heap_alloc_new _ _
  have hr1 := Kd.C_below hr0 hb1
  replace hr0 := Aside0.mk hr0
  go_enter Try.func9, Try.ntmps9
  go_wp2_with fail
  refine (find_calls A0 c0 l0 u _ hr1 hc0 hlen).mono ?_; rintro e_ w2 ⟨⟨i, is, rfl, hf⟩, hb2⟩
  have hrc := Aside0.mk (right_calls A0 c0 l0 w2 (Kd.C_below hr1 hb2) hc0 hlen hwf)
  replace hf := Lib.hid hf
  go_wp2_with fail
  refine hrc.out.mono ?_; rintro e_ w3 ⟨rfl, hb3⟩
  have hB3 := below_step hb2 hb3
  have hr3 := Kd.C_below hr1 hB3
  have hK3 : w3.heap[w.heap.size]? = some (.cells #[.int .u64 0, .string ⟨#[]⟩, .int .u64 0, .string ⟨#[]⟩, .slice none 0 0] 29 (0, 0)) := (hB3.block _ (by omega)).trans hK1
  replace hB3 := below_step hb1 hB3
  clear hrc hb2 hb3 hr1 hK1 hw1
  cases hR : rightB l0 with
  | false =>
    have hfin : ∀ W, Hid (FetchE l0 u (.returned (.tuple #[.slice none 0 0, zer29, .int .i64 1])) W) := fun W => Lib.hid (.inl ⟨hR, rfl⟩)
    go_wp2_with ((with_reducible refine gate_store (t := 29) (p := 5) rfl ?_); go_loud (refine wpList_storeBox rfl rfl 29 (.tmp 5) (.tmp 22) rfl zer29 [.int .u64 0, .string ⟨#[]⟩, .int .u64 0, .string ⟨#[]⟩, .slice none 0 0] rfl rfl rfl (by kernel_rfl) (by simp [Value.oneCell']) hK3 rfl ?_); intro w4 hK4 hg4 hs4)
    have hB4 : Below w.heap.size w w4 := pw_below_grown hB3 _ hB3.size hg4 (fun k hk => by cases hk; exact Nat.le_refl _)
    clear hK3 hr3
    have y0 : w4.cell? ⟨w.heap.size, 0, none⟩ = some (.int .u64 0) := (blk_cell hK4 0).trans rfl
    have y1 : w4.cell? ⟨w.heap.size, 1, none⟩ = some (.string ⟨#[]⟩) := (blk_cell hK4 1).trans rfl
    have y2 : w4.cell? ⟨w.heap.size, 2, none⟩ = some (.int .u64 0) := (blk_cell hK4 2).trans rfl
    have y3 : w4.cell? ⟨w.heap.size, 3, none⟩ = some (.string ⟨#[]⟩) := (blk_cell hK4 3).trans rfl
    have y4 : w4.cell? ⟨w.heap.size, 4, none⟩ = some (.slice none 0 0) := (blk_cell hK4 4).trans rfl
    refine bodyPost_ret (v := .tuple #[.slice none 0 0, zer29, .int .i64 1]) (by simp [results, Try.results9, go_sem, y0, y1, y2, y3, y4]) rfl ?_
    exact ⟨(hfin _).out, hB4⟩
  | true =>
    cases is with
    | false =>
      have hfin : ∀ W, Hid (FetchE l0 u (.returned (.tuple #[.slice none 0 0, zer29, .int .i64 5])) W) := fun W => Lib.hid (.inr (.inl ⟨hR, found_no hR hf.out, rfl⟩))
      go_wp2_with ((with_reducible refine gate_store (t := 29) (p := 5) rfl ?_); go_loud (refine wpList_storeBox rfl rfl 29 (.tmp 5) (.tmp 26) rfl zer29 [.int .u64 0, .string ⟨#[]⟩, .int .u64 0, .string ⟨#[]⟩, .slice none 0 0] rfl rfl rfl (by kernel_rfl) (by simp [Value.oneCell']) hK3 rfl ?_); intro w4 hK4 hg4 hs4)
      have hB4 : Below w.heap.size w w4 := pw_below_grown hB3 _ hB3.size hg4 (fun k hk => by cases hk; exact Nat.le_refl _)
      clear hK3 hr3
      have y0 : w4.cell? ⟨w.heap.size, 0, none⟩ = some (.int .u64 0) := (blk_cell hK4 0).trans rfl
      have y1 : w4.cell? ⟨w.heap.size, 1, none⟩ = some (.string ⟨#[]⟩) := (blk_cell hK4 1).trans rfl
      have y2 : w4.cell? ⟨w.heap.size, 2, none⟩ = some (.int .u64 0) := (blk_cell hK4 2).trans rfl
      have y3 : w4.cell? ⟨w.heap.size, 3, none⟩ = some (.string ⟨#[]⟩) := (blk_cell hK4 3).trans rfl
      have y4 : w4.cell? ⟨w.heap.size, 4, none⟩ = some (.slice none 0 0) := (blk_cell hK4 4).trans rfl
      refine bodyPost_ret (v := .tuple #[.slice none 0 0, zer29, .int .i64 5]) (by simp [results, Try.results9, go_sem, y0, y1, y2, y3, y4]) rfl ?_
      exact ⟨(hfin _).out, hB4⟩
    | true =>
      obtain ⟨hi, hu⟩ := found_yes hf.out
      obtain ⟨ad, A4, c4, eA, q0, q1, q2, q3, q4, hc4, hC4⟩ := kr_atC (C_kdAt hr0.out hB3) i hi
      subst eA
      have hfin : Hid (∀ e W, (∃ (A : Option Addr) (c : Nat) (B : Option Addr) (c' : Nat), e = Ending.returned (.tuple #[.slice A l0.length c, sv { rd_T29 l0 (i : Int) with f3 := (rd_T29 l0 (i : Int)).f3.take 1 } B c', .int .i64 0]) ∧ l0.length ≤ c ∧ k29.C W A l0.length (l0.set i { rd_T29 l0 (i : Int) with f3 := (rd_T29 l0 (i : Int)).f3.drop 1 }) ∧
          ((rd_T29 l0 (i : Int)).f3.take 1).length ≤ c' ∧ k26.C W B ((rd_T29 l0 (i : Int)).f3.take 1).length ((rd_T29 l0 (i : Int)).f3.take 1)) → FetchE l0 u e W) := Lib.hid fun e W ⟨A, c, B, c', h1, h2, h3, h4, h5⟩ => .inr (.inr ⟨hR, i, _, A, c, B, c', hi, rfl, hu, h1, h2, h3, h4, h5⟩)
      have hin : (i : Int) < l0.length := by omega
      obtain ⟨x, hx⟩ : ∃ x, rd_T29 l0 (i : Int) = x := ⟨_, rfl⟩
      rw [hx] at q0 q1 q2 q3 q4 hC4 hc4 hfin
      obtain ⟨n, hn⟩ : ∃ n, min x.f3.length 1 = n := ⟨_, rfl⟩
      replace hx := Lib.hid hx
      have hn1 : n ≤ x.f3.length := by omega
      have hnd : x.f3.drop n = x.f3.drop 1 := by
        rcases Nat.eq_zero_or_pos x.f3.length with h | h
        · rw [List.eq_nil_of_length_eq_zero h]; simp
        · rw [show n = 1 by omega]
      have hnt : (x.f3.take 1).length = n := by rw [List.length_take]; omega
      have hmin : (if (1 : Int) < (x.f3.length : Int) then (1 : Int) else (x.f3.length : Int)) = (n : Int) := by split <;> omega
      replace hn := Lib.hid hn
      replace hu := Lib.hid hu
      obtain ⟨w4, hw4⟩ : ∃ w4, w3.alloc (box29 x A4 x.f3.length c4) = w4 := ⟨_, rfl⟩
      have hb4 : Below w3.heap.size w3 w4 := by rw [← hw4]; exact below_alloc (Below.refl _ _) _
      have hs4 : w4.heap.size = w3.heap.size + 1 := by rw [← hw4]; simp
      have hK4 : w4.heap[w3.heap.size]? = some (box29 x A4 x.f3.length c4) := by rw [← hw4]; exact heap_alloc_new _ _
      have z4 : w4.cell? ⟨w3.heap.size, 4, none⟩ = some (.slice A4 x.f3.length c4) := (blk_cell hK4 4).trans rfl
      obtain ⟨w5, hw5⟩ : ∃ w5, w4.alloc (.cells #[.int .i64 (n : Int)] 3 (0, 0)) = w5 := ⟨_, rfl⟩
      have hb5 : Below w4.heap.size w4 w5 := by rw [← hw5]; exact below_alloc (Below.refl _ _) _
      have hK5 : w5.heap[w3.heap.size + 1]? = some (.cells #[.int .i64 (n : Int)] 3 (0, 0)) := by rw [← hs4, ← hw5]; exact heap_alloc_new _ _
      have hB5 := below_step hb4 hb5
      have zn : w5.cell? ⟨w3.heap.size + 1, 0, none⟩ = some (.int .i64 (n : Int)) := (blk_cell hK5 0).trans rfl
      have hn5 : w3.heap.size + 1 < w5.heap.size := blk_lt hK5
      have hK45 := (hb5.block _ (by omega)).trans hK4
      have hK35 := (hB5.block _ (blk_lt hK3)).trans hK3
      have hrep := Aside0.mk (replaced_calls 31 ⟨w3.heap.size + 1, 0, none⟩ (some ad) c0 l0 i { x with f3 := x.f3.drop n } w w5 (below_step hB3 hB5) enter31 hr0.out hc0 hlen hi (by
        intro W1 A c hbW h1 h2
        rw [hx.out] at h1 h2 ⊢
        refine (fetch1_calls x A c (w3.heap.size + 1) n W1 hn1 h1 (Nat.lt_of_lt_of_le hn5 hbW.size) ((Below.cell (p := ⟨w3.heap.size + 1, 0, none⟩) hbW hn5).trans zn)).mono ?_
        rintro e W2 ⟨rfl, hb⟩
        have hl : (x.f3.drop n).length = x.f3.length - n := List.length_drop
        refine ⟨if c = n then A else A.map (·.add (n * 2)), c - n, by rw [← hl], by show (x.f3.drop n).length ≤ c - n; rw [hl]; omega, Kd.C_drop h2 hn1 h1, hb⟩))
      rw [hnd] at hrep
      clear hK4 hK5 hr3
      have hcut : ∀ W : World, (Instr.slice 27 (.slice A4 x.f3.length c4) none (some (.int .i64 (n : Int))) (some (.int .i64 (n : Int)))).run Try.prog W = .ok (.slice A4 n n) W := by
        intro W
        obtain ⟨i0, hi0, _, hsz, _⟩ := info_parts info26
        have hel : Try.prog.elem 27 = 26 := by simp [Program.elem, Try.underlying27]
        have hu : Try.prog.underlying 27 = some (.slice (Try.prog.elem 27)) := by rw [hel]; exact Try.underlying27
        have ha : (A4.map fun y => y.add 0) = A4 := by cases A4 <;> simp [Addr.add]
        rw [run_slice_hm W 27 A4 x.f3.length c4 hu .i64 .i64 (n : Int) (n : Int) (by omega) (by omega) (by omega), hel]
        simp [sizeOf, typeInfo, hi0, sliced, Result.andThen, ha]
      have hCt : k26.C w A4 (x.f3.take 1).length (x.f3.take 1) := by
        rcases Nat.eq_zero_or_pos x.f3.length with h | h
        · rw [List.take_of_length_le (by omega)]; exact hC4
        · exact Kd.C_take hC4 (by omega)
      replace hCt := Aside0.mk hCt
      replace hnt := Lib.hid hnt
      go_wp2_with fail
      refine hrep.out.mono ?_; rintro e_ w6 ⟨v, rfl, hR6, hb6⟩
      have hB6 := below_step hB3 (below_step hB5 hb6)
      obtain ⟨A, c, rfl, hcc, hC6⟩ := Kd.R_reads hR6
      rw [List.length_set] at hcc hC6 
      have hR6l := Kd.R_base hR6
      have hA6 : ∀ n' k, (Value.slice A n' c).ownBlock = some k → w5.heap.size ≤ k := fun n' k hk => hR6l k (by cases A <;> exact hk)
      have hw5 : w.heap.size < w5.heap.size := blk_lt hK35
      clear hR6l
      have hK46 := (hb6.block _ (blk_lt hK45)).trans hK45
      have hK36 := (hb6.block _ (blk_lt hK35)).trans hK35
      replace zn := (Below.cell (p := ⟨w3.heap.size + 1, 0, none⟩) hb6 hn5).trans zn
      replace z4 : w6.cell? ⟨w3.heap.size, 4, none⟩ = some (.slice A4 x.f3.length c4) := (blk_cell hK46 4).trans rfl
      have f4 := blk_frozen hK46 4
      have hK47 := blk_put hK46 4 (.slice A4 n n) rfl
      have hK37 := Aside0.mk (blk_far hK36 (p := ⟨w3.heap.size, 4, none⟩) (by have := blk_lt hK3; simp; omega) (.slice A4 n n))
      have hb7 : w6.grownBy (w6.setCell ⟨w3.heap.size, 4, none⟩ (.slice A4 n n)) (some w3.heap.size) := ⟨rfl, rfl, rfl, by simp [World.setCell], fun k _ hk => Below.heap_setCell w6 _ _ k (fun e => hk (by rw [e]))⟩
      generalize hw7 : w6.setCell ⟨w3.heap.size, 4, none⟩ (.slice A4 n n) = w7 at hK47 hK37 hb7
      have y0 := Aside0.mk (show w7.cell? ⟨w3.heap.size, 0, none⟩ = some (.int .u64 x.f0) from (blk_cell hK47 0).trans rfl)
      have y1 := Aside0.mk (show w7.cell? ⟨w3.heap.size, 1, none⟩ = some (.string x.f1) from (blk_cell hK47 1).trans rfl)
      have y2 := Aside0.mk (show w7.cell? ⟨w3.heap.size, 2, none⟩ = some (.int .u64 x.f2.f0) from (blk_cell hK47 2).trans rfl)
      have y3 := Aside0.mk (show w7.cell? ⟨w3.heap.size, 3, none⟩ = some (.string x.f2.f1) from (blk_cell hK47 3).trans rfl)
      have y4 := Aside0.mk (show w7.cell? ⟨w3.heap.size, 4, none⟩ = some (.slice A4 n n) from (blk_cell hK47 4).trans rfl)
      have hR7 := Aside0.mk (Kd.R_grown (Kd.R_tight rfl hR6) hb7 (fun k hk he => by have := hA6 _ k hk.symm; injection he with he; omega))
      have hB7 := Aside0.mk (pw_below_grown hB6 _ hB6.size hb7 (fun k hk => by cases hk; exact hB3.size))
      clear hb7 hB6
      replace hfin := Aside0.mk hfin
      clear hK47 hK46 hK36 hK45 hK35 hrep q0 q1 q2 q3 q4 hR6
      go_wp2
      refine start_ (n := 5) (S := fun w' => w'.cell? ⟨w3.heap.size, 0, none⟩ = some (.int .u64 x.f0) ∧ w'.cell? ⟨w3.heap.size, 1, none⟩ = some (.string x.f1) ∧ w'.cell? ⟨w3.heap.size, 2, none⟩ = some (.int .u64 x.f2.f0) ∧ w'.cell? ⟨w3.heap.size, 3, none⟩ = some (.string x.f2.f1) ∧ w'.cell? ⟨w3.heap.size, 4, none⟩ = some (.slice A4 n n)) (ds := [3]) #[false, false, false, false, false] (by kernel_rfl) rfl rfl ⟨y0.out, y1.out, y2.out, y3.out, y4.out⟩ (fun hHeld => ?_)
      refine pure_ (i := 0) (N := some 45) (v := ?_) (a' := ?_) #[true, false, false, false, false] rfl rfl (by kernel_rfl) (fun _ _ _ h => h) (Or.inl ⟨by rfl, ?_⟩) ?_ ?_
      rotate_left
      · intro w'
        go_simp
        with_reducible rfl
      rotate_left
      · simp only [Act.put, List.setIfInBounds_toArray, List.set_cons_zero, List.set_cons_succ, i64_w, i32_w]
        rfl
      refine pure_ (i := 2) (N := some 4) (v := ?_) (a' := ?_) #[true, false, true, false, false] rfl rfl (by kernel_rfl) (fun _ _ _ h => h) (Or.inl ⟨by rfl, ?_⟩) ?_ ?_
      rotate_left
      · intro w'
        go_simp
        with_reducible rfl
      rotate_left
      · simp only [Act.put, List.setIfInBounds_toArray, List.set_cons_zero, List.set_cons_succ, i64_w, i32_w]
        rfl
      refine take_ (i := 1) (N := some 46) (v := ?_) (a' := ?_) #[true, true, true, false, false] rfl rfl (by kernel_rfl) (fun _ _ _ h => h) (Or.inl ⟨by rfl, ?_⟩) hHeld ?_ ?_
      rotate_left
      · rintro w' ⟨s0, s1, s2, s3, s4⟩
        go_simp
        with_reducible rfl
      rotate_left
      · simp only [Act.put, List.setIfInBounds_toArray, List.set_cons_zero, List.set_cons_succ, i64_w, i32_w]
        rfl
      refine last_ (i := 3) (N := none) #[true, true, true, true, false] rfl rfl (by kernel_rfl) (by decide) (fun K hK => ?_)
      refine skip_storeBox (by rfl) rfl 29 (.tmp 5) (.tmp 46) rfl (.agg #[.int .u64 x.f0, .string x.f1, .int .u64 x.f2.f0, .string x.f2.f1, .slice A4 n n]) [.int .u64 x.f0, .string x.f1, .int .u64 x.f2.f0, .string x.f2.f1, .slice A4 n n] rfl rfl rfl (by kernel_rfl) (by simp [Value.oneCell']) hK37.out rfl ?_
      intro w8 hK8 hg8 hs8
      refine hK.out _ _ ?_
      clear hK K
      refine pure_ (i := 4) (N := some 6) (v := ?_) (a' := ?_) #[true, true, true, true, true] rfl rfl (by kernel_rfl) (fun _ _ _ h => h) (Or.inl ⟨by rfl, ?_⟩) ?_ ?_
      rotate_left
      · intro w'
        go_simp
        with_reducible rfl
      rotate_left
      · simp only [Act.put, List.setIfInBounds_toArray, List.set_cons_zero, List.set_cons_succ, i64_w, i32_w]
        rfl
      refine done_ (by kernel_rfl) ?_
      have hB8 : Below w.heap.size w w8 := pw_below_grown hB7.out.drew _ hB7.out.size hg8 (fun k hk => by cases hk; exact Nat.le_refl _)
      have hR8 := Kd.R_grown (Kd.R_drew hR7.out) hg8 (fun k hk he => by have := hA6 _ k hk.symm; injection he with he; omega)
      have hC8 := (Kd.R_reads' hR8).2.2
      rw [List.length_set] at hC8
      clear hR8
      replace hC8 := Aside0.mk (kdAt_C hC8 hB8)
      have x0 : w8.cell? ⟨w.heap.size, 0, none⟩ = some (.int .u64 x.f0) := (blk_cell hK8 0).trans rfl
      have x1 : w8.cell? ⟨w.heap.size, 1, none⟩ = some (.string x.f1) := (blk_cell hK8 1).trans rfl
      have x2 : w8.cell? ⟨w.heap.size, 2, none⟩ = some (.int .u64 x.f2.f0) := (blk_cell hK8 2).trans rfl
      have x3 : w8.cell? ⟨w.heap.size, 3, none⟩ = some (.string x.f2.f1) := (blk_cell hK8 3).trans rfl
      have x4 : w8.cell? ⟨w.heap.size, 4, none⟩ = some (.slice A4 n n) := (blk_cell hK8 4).trans rfl
      go_wp2
      refine bodyPost_ret (v := .tuple #[.slice A l0.length c, .agg #[.int .u64 x.f0, .string x.f1, .int .u64 x.f2.f0, .string x.f2.f1, .slice A4 n n], .int .i64 0]) (by simp [results, Try.results9, go_sem, x0, x1, x2, x3, x4]) rfl ?_
      exact ⟨hfin.out.out _ _ ⟨A, c, A4, n, by rw [← hnt.out], hcc, hC8.out, Nat.le_of_eq hnt.out, Kd.C_below hCt.out hB8⟩, hB8⟩
end Go.Proofs.Ytkomcddnfjbifaa.Q
