/- prekeys.More: shelves with more one-time points of a user's; or why not.
   Conditions: the list is read as shelves, and the points' numbers are of 64 bits. -/
import Derived.Test.YtkomcddnfjbifaaHConcat
import Derived.Test.YtkomcddnfjbifaaHPure
import Derived.Maps.OwnSet
namespace Go.Proofs.Ytkomcddnfjbifaa.Q
open Go.RowKit Go.Proofs.YtkomcddnfjbifaaW.PrintWords Go.Proofs.YtkomcddnfjbifaaW.PrintLast Go.Proofs.YtkomcddnfjbifaaW.PrintMore
set_option linter.unusedVariables false
set_option linter.unusedSimpArgs false

theorem twiceB_iff (l : List S26) : twiceB l = false ↔ (l.map (·.f0)).Nodup := by
  constructor
  · intro h
    rw [List.Nodup, List.pairwise_iff_getElem]
    intro a b ha hb hab he
    rw [List.length_map] at ha hb
    rw [List.getElem_map, List.getElem_map] at he
    have h3 : twiceB l = true := by
      unfold twiceB
      rw [List.any_eq_true]
      refine ⟨b, List.mem_range.2 hb, ?_⟩
      rw [List.contains_iff_mem, List.mem_map]
      refine ⟨l[a], ?_, by rw [he, rd26_nat l b hb]⟩
      rw [List.mem_take_iff_getElem]
      exact ⟨a, by omega, rfl⟩
    rw [h3] at h
    cases h
  · intro h
    cases h3 : twiceB l with
    | false => rfl
    | true =>
      unfold twiceB at h3
      rw [List.any_eq_true] at h3
      obtain ⟨b, hb, h4⟩ := h3
      rw [List.mem_range] at hb
      rw [List.contains_iff_mem, List.mem_map] at h4
      obtain ⟨p, hp, he⟩ := h4
      rw [List.mem_take_iff_getElem] at hp
      obtain ⟨a, ha, rfl⟩ := hp
      rw [rd26_nat l b hb] at he
      rw [List.Nodup, List.pairwise_iff_getElem] at h
      exact absurd (by rw [List.getElem_map, List.getElem_map]; exact he) (h a b (by rw [List.length_map]; omega) (by rw [List.length_map]; exact hb) (by omega))
/-- A map that has just these numbers: as many as there are, or fewer where one comes twice. -/
def Has (D : DataW Unit) (ks : List Int) : Prop :=
  Maps.IsMap D ∧ (∀ k : Int, Maps.has D (.int .u64 k) = ks.contains k) ∧ ((Maps.size D = ks.length ∧ ks.Nodup) ∨ (Maps.size D < ks.length ∧ ¬ ks.Nodup))
theorem has_none : Has (.map []) [] := ⟨Maps.isMap_empty, fun k => rfl, .inl ⟨rfl, List.nodup_nil⟩⟩
theorem has_snoc {D : DataW Unit} {ks : List Int} (h : Has D ks) (ht : Maps.Tidy D) (k : Int) (d : DataW Unit) : Has (D.put (.int .u64 k) d) (ks ++ [k]) := by
  obtain ⟨hm, hh, hs⟩ := h
  refine ⟨?_, fun k' => ?_, ?_⟩
  · obtain ⟨es, rfl⟩ := hm
    exact ⟨_, rfl⟩
  · by_cases e : k' = k
    · subst e
      rw [Maps.has_put_same hm (by trivial)]
      simp
    · rw [Maps.has_put_other (by intro h'; injection h' with _ h'; exact e h'), hh k', List.contains_append]
      simp [e]
  · rw [Maps.size_put ht, hh k, List.length_append, List.length_singleton]
    cases hk : ks.contains k with
    | true =>
      rw [if_pos rfl]
      right
      refine ⟨by rcases hs with ⟨h1, _⟩ | ⟨h1, _⟩ <;> omega, fun hn => ?_⟩
      rw [List.nodup_append] at hn
      rw [List.contains_iff_mem] at hk
      exact hn.2.2 k hk k (by simp) rfl
    | false =>
      rw [if_neg (by decide)]
      have hk' : k ∉ ks := fun h => by rw [← List.contains_iff_mem, hk] at h; cases h
      rcases hs with ⟨h1, h2⟩ | ⟨h1, h2⟩
      · left
        refine ⟨by omega, ?_⟩
        rw [List.nodup_append]
        refine ⟨h2, by simp, fun a ha b hb e => ?_⟩
        rw [List.mem_singleton] at hb
        subst hb
        subst e
        exact hk' ha
      · right
        refine ⟨by omega, fun hn => ?_⟩
        rw [List.nodup_append] at hn
        exact h2 hn.1
theorem has_twice {D : DataW Unit} {l : List S26} (h : Has D (l.map (·.f0))) : decide ((Maps.size D : Int) < (l.length : Int)) = twiceB l := by
  obtain ⟨_, _, hs⟩ := h
  rw [List.length_map] at hs
  rcases hs with ⟨h1, h2⟩ | ⟨h1, h2⟩
  · rw [(twiceB_iff l).2 h2]
    exact decide_eq_false (by omega)
  · cases ht : twiceB l with
    | false => exact absurd ((twiceB_iff l).1 ht) h2
    | true => exact decide_eq_true (by omega)
theorem enter42 (args : Array Value) (W : World) : (callFunc 42 args).run Try.prog W = .ok (.enter 42 args) W := by
  have h := Try.func42
  simp [callFunc, h, Try.f42, Sem.run_bind]
set_option maxHeartbeats 1000000 in
set_option maxRecDepth 100000 in
theorem more1_calls (x : S29) (A : Option Addr) (c : Nat) (B : Option Addr) (n d : Nat) (gn : Nat) (w : World) (hgn : gn < w.heap.size) (hcell : w.cell? ⟨gn, 0, none⟩ = some (.slice B n d)) :
    Calls Try.prog 42 #[sv x A c, .pointer (some ⟨gn, 0, none⟩)] w fun e w' => e = .returned (.agg #[.int .u64 x.f0, .string x.f1, .int .u64 x.f2.f0, .string x.f2.f1, .slice B n d]) ∧ Below w.heap.size w w' := by
  obtain ⟨w1, hw1⟩ : ∃ w1, w.alloc (.cells #[.int .u64 x.f0, .string x.f1, .int .u64 x.f2.f0, .string x.f2.f1, .slice A x.f3.length c] 29 (0, 0)) = w1 := ⟨_, rfl⟩
  have hb1 : Below w.heap.size w w1 := by rw [← hw1]; exact below_alloc (Below.refl _ _) _
  have hs1 : w1.heap.size = w.heap.size + 1 := by rw [← hw1]; simp
  have hK1 : w1.heap[w.heap.size]? = some (.cells #[.int .u64 x.f0, .string x.f1, .int .u64 x.f2.f0, .string x.f2.f1, .slice A x.f3.length c] 29 (0, 0)) := by rw [← hw1]; exact heap_alloc_new _ _
  obtain ⟨w2, hw2⟩ : ∃ w2, w1.alloc (.cells #[.int .u64 0, .string ⟨#[]⟩, .int .u64 0, .string ⟨#[]⟩, .slice none 0 0] 29 (0, 0)) = w2 := ⟨_, rfl⟩
  have hb2 : Below w1.heap.size w1 w2 := by rw [← hw2]; exact below_alloc (Below.refl _ _) _
  have hK2 : w2.heap[w.heap.size + 1]? = some (.cells #[.int .u64 0, .string ⟨#[]⟩, .int .u64 0, .string ⟨#[]⟩, .slice none 0 0] 29 (0, 0)) := by rw [← hs1, ← hw2]; exact heap_alloc_new _ _
  have hK12 : w2.heap[w.heap.size]? = some (.cells #[.int .u64 x.f0, .string x.f1, .int .u64 x.f2.f0, .string x.f2.f1, .slice A x.f3.length c] 29 (0, 0)) := (hb2.block _ (by omega)).trans hK1
  have z4 : w2.cell? ⟨w.heap.size, 4, none⟩ = some (.slice A x.f3.length c) := (blk_cell hK12 4).trans rfl
  have f4 := blk_frozen hK12 4
  have zn : w2.cell? ⟨gn, 0, none⟩ = some (.slice B n d) := (Below.cell (below_step hb1 hb2) hgn).trans hcell
  have hK13 := blk_put hK12 4 (.slice B n d) rfl
  have hK23 := blk_far hK2 (p := ⟨w.heap.size, 4, none⟩) (by simp) (.slice B n d)
  have hb3 : w2.grownBy (w2.setCell ⟨w.heap.size, 4, none⟩ (.slice B n d)) (some w.heap.size) := ⟨rfl, rfl, rfl, by simp [World.setCell], fun k _ hk => Below.heap_setCell w2 _ _ k (fun e => hk (by rw [e]))⟩
  generalize hw3 : w2.setCell ⟨w.heap.size, 4, none⟩ (.slice B n d) = w3 at hK13 hK23 hb3
  have y0 : w3.cell? ⟨w.heap.size, 0, none⟩ = some (.int .u64 x.f0) := (blk_cell hK13 0).trans rfl
  have y1 : w3.cell? ⟨w.heap.size, 1, none⟩ = some (.string x.f1) := (blk_cell hK13 1).trans rfl
  have y2 : w3.cell? ⟨w.heap.size, 2, none⟩ = some (.int .u64 x.f2.f0) := (blk_cell hK13 2).trans rfl
  have y3 : w3.cell? ⟨w.heap.size, 3, none⟩ = some (.string x.f2.f1) := (blk_cell hK13 3).trans rfl
  have y4 : w3.cell? ⟨w.heap.size, 4, none⟩ = some (.slice B n d) := (blk_cell hK13 4).trans rfl
  have hB3 : Below w.heap.size w w3 := pw_below_grown (below_step hb1 hb2) w.heap.size (below_step hb1 hb2).size hb3 (fun k hk => by cases hk; exact Nat.le_refl _)
  clear hK1 hcell hK12 hK13 hb3 hK2
  go_enter Try.func42, Try.ntmps42
  go_wp2_with ((with_reducible refine gate_store (t := 29) (p := 3) rfl ?_); go_loud (refine wpList_storeBox rfl rfl 29 (.tmp 3) (.tmp 6) rfl (.agg #[.int .u64 x.f0, .string x.f1, .int .u64 x.f2.f0, .string x.f2.f1, .slice B n d]) [.int .u64 x.f0, .string x.f1, .int .u64 x.f2.f0, .string x.f2.f1, .slice B n d] rfl rfl rfl (by kernel_rfl) (by simp [Value.oneCell']) hK23 rfl ?_); intro w4 hK4 hg4 hs4)
  have hB4 : Below w.heap.size w w4 := pw_below_grown hB3 _ hB3.size hg4 (fun k hk => by cases hk; omega)
  clear y0 y1 y2 y3 y4 hB3 hK23
  have y0 : w4.cell? ⟨w.heap.size + 1, 0, none⟩ = some (.int .u64 x.f0) := (blk_cell hK4 0).trans rfl
  have y1 : w4.cell? ⟨w.heap.size + 1, 1, none⟩ = some (.string x.f1) := (blk_cell hK4 1).trans rfl
  have y2 : w4.cell? ⟨w.heap.size + 1, 2, none⟩ = some (.int .u64 x.f2.f0) := (blk_cell hK4 2).trans rfl
  have y3 : w4.cell? ⟨w.heap.size + 1, 3, none⟩ = some (.string x.f2.f1) := (blk_cell hK4 3).trans rfl
  have y4 : w4.cell? ⟨w.heap.size + 1, 4, none⟩ = some (.slice B n d) := (blk_cell hK4 4).trans rfl
  refine bodyPost_ret (v := .agg #[.int .u64 x.f0, .string x.f1, .int .u64 x.f2.f0, .string x.f2.f1, .slice B n d]) (by simp [results, Try.results42, go_sem, y0, y1, y2, y3, y4]) rfl ?_
  exact ⟨rfl, hB4⟩
/-- What prekeys.More answers. -/
def MoreE (l : List S29) (u : Int) (once : List S26) (e : Ending) (w' : World) : Prop :=
  (rightB l = false ∧ e = .returned (.tuple #[.slice none 0 0, .int .i64 1])) ∨
  (rightB l = true ∧ (∀ k : Nat, k < l.length → (rd_T29 l (k : Int)).f0 ≠ u) ∧ e = .returned (.tuple #[.slice none 0 0, .int .i64 5])) ∨
  (rightB l = true ∧ ∃ (i : Nat) (x : S29) (al : List S26), i < l.length ∧ rd_T29 l (i : Int) = x ∧ x.f0 = u ∧ x.f3 ++ once = al ∧
    ((twiceB al = true ∧ e = .returned (.tuple #[.slice none 0 0, .int .i64 7])) ∨
     (twiceB al = false ∧ 20 < al.length ∧ e = .returned (.tuple #[.slice none 0 0, .int .i64 6])) ∨
     (twiceB al = false ∧ al.length ≤ 20 ∧ apartB al = false ∧ e = .returned (.tuple #[.slice none 0 0, .int .i64 1])) ∨
     (twiceB al = false ∧ al.length ≤ 20 ∧ apartB al = true ∧ ∃ A c, e = .returned (.tuple #[.slice A l.length c, .int .i64 0]) ∧ l.length ≤ c ∧ k29.C w' A l.length (l.set i { x with f3 := al }))))
set_option maxHeartbeats 4000000 in
set_option maxRecDepth 100000 in
theorem more_calls (A0 : Option Addr) (c0 : Nat) (l0 : List S29) (u : Int) (Ao : Option Addr) (co : Nat) (once : List S26) (w : World) (hr0 : Kd.C k29 w A0 l0.length l0) (hc0 : l0.length ≤ c0) (hlen : l0.length ≤ 1000000) (hwf : ∀ s ∈ l0, ∀ p ∈ s.f3, (Lit.int .u64 p.f0).wf = true)
    (hCo : k26.C w Ao once.length once) (hco : once.length ≤ co) (hwo : ∀ p ∈ once, (Lit.int .u64 p.f0).wf = true) (h22 : ∀ s ∈ l0, s.f3.length ≤ 22) (ho22 : once.length ≤ 22) :
    Calls Try.prog 25 #[.slice A0 l0.length c0, .int .u64 u, .slice Ao once.length co] w fun e w' => MoreE l0 u once e w' ∧ Below w.heap.size w w' := by
  go_enter Try.func25, Try.ntmps25
  go_wp2_with fail
  refine (find_calls A0 c0 l0 u _ hr0 hc0 hlen).mono ?_; rintro e_ w2 ⟨⟨i, is, rfl, hf⟩, hb2⟩
  have hrc := Aside0.mk (right_calls A0 c0 l0 w2 (Kd.C_below hr0 hb2) hc0 hlen hwf)
  replace hf := Lib.hid hf
  go_wp2_with fail
  refine hrc.out.mono ?_; rintro e_ w3 ⟨rfl, hb3⟩
  have hB3 := below_step hb2 hb3
  clear hrc hb2 hb3
  cases hR : rightB l0 with
  | false =>
    have hfin : Hid (∀ W, MoreE l0 u once (.returned (.tuple #[.slice none 0 0, .int .i64 1])) W) := Lib.hid fun W => .inl ⟨hR, rfl⟩
    go_wp2
    go_ret2
    exact ⟨hfin.out _, hB3⟩
  | true =>
    cases is with
    | false =>
      have hfin : Hid (∀ W, MoreE l0 u once (.returned (.tuple #[.slice none 0 0, .int .i64 5])) W) := Lib.hid fun W => .inr (.inl ⟨hR, found_no hR hf.out, rfl⟩)
      go_wp2
      go_ret2
      exact ⟨hfin.out _, hB3⟩
    | true =>
      obtain ⟨hi, hu⟩ := found_yes hf.out
      obtain ⟨ad, A4, c4, eA, q0, q1, q2, q3, q4, hc4, hC4⟩ := kr_atC (w0 := w) (C_kdAt hr0 hB3) i hi
      subst eA
      have hx22 := h22 _ (rd29_mem l0 i hi)
      have hwx := hwf _ (rd29_mem l0 i hi)
      obtain ⟨x, hx⟩ : ∃ x, rd_T29 l0 (i : Int) = x := ⟨_, rfl⟩
      rw [hx] at q0 q1 q2 q3 q4 hC4 hc4 hu hx22 hwx
      obtain ⟨al, hal⟩ : ∃ al, x.f3 ++ once = al := ⟨_, rfl⟩
      obtain ⟨N, hN⟩ : ∃ N, al.length = N := ⟨_, rfl⟩
      have hNle : N ≤ 44 := by rw [← hN, ← hal, List.length_append]; omega
      have hwal : ∀ p ∈ al, (Lit.int .u64 p.f0).wf = true := fun p hp => by
        rw [← hal] at hp
        rcases List.mem_append.1 hp with h | h
        · exact hwx p h
        · exact hwo p h
      have hfin : Hid (∀ e W, ((twiceB al = true ∧ e = .returned (.tuple #[.slice none 0 0, .int .i64 7])) ∨
        (twiceB al = false ∧ 20 < al.length ∧ e = .returned (.tuple #[.slice none 0 0, .int .i64 6])) ∨
        (twiceB al = false ∧ al.length ≤ 20 ∧ apartB al = false ∧ e = .returned (.tuple #[.slice none 0 0, .int .i64 1])) ∨
        (twiceB al = false ∧ al.length ≤ 20 ∧ apartB al = true ∧ ∃ A c, e = .returned (.tuple #[.slice A l0.length c, .int .i64 0]) ∧ l0.length ≤ c ∧ k29.C W A l0.length (l0.set i { x with f3 := al }))) → MoreE l0 u once e W) := Lib.hid fun e W h => .inr (.inr ⟨hR, i, x, al, hi, hx, hu, hal, h⟩)
      have hin : (i : Int) < l0.length := by omega
      replace hx := Lib.hid hx
      replace hu := Lib.hid hu
      replace hal := Lib.hid hal
      replace hwal := Aside0.mk hwal
      replace hN := Lib.hid hN
      replace hwx := Aside0.mk hwx
      clear q0 q1 q2 q3 hx22
      obtain ⟨w4, hw4⟩ : ∃ w4, w3.alloc (.cells #[.slice A4 x.f3.length c4, .slice Ao once.length co] 27 (0, 0)) = w4 := ⟨_, rfl⟩
      have hb4 : Below w3.heap.size w3 w4 := by rw [← hw4]; exact below_alloc (Below.refl _ _) _
      have hK4 : w4.heap[w3.heap.size]? = some (.cells #[.slice A4 x.f3.length c4, .slice Ao once.length co] 27 (0, 0)) := by rw [← hw4]; exact heap_alloc_new _ _
      have hB4 := below_step hB3 hb4
      have hcc := Aside0.mk (concat_calls w3.heap.size A4 c4 x.f3 Ao co once w4 hK4 (Kd.C_below hC4 hB4) (Kd.C_below hCo hB4) (by have := hN.out; rw [← hal.out, List.length_append] at this; omega) (by omega))
      clear hK4
      go_wp2_with fail
      refine hcc.out.mono ?_; rintro e_ w5 ⟨v, rfl, hR5, hb5⟩
      clear hcc
      rw [hal.out] at hR5
      obtain ⟨Aa, ca, rfl, hca, hCa⟩ := Kd.R_reads hR5
      rw [hN.out] at hca hCa ⊢
      replace hCa := Aside0.mk hCa
      have hB5 := below_step hB4 hb5
      obtain ⟨w6, hw6⟩ : ∃ w6, w5.alloc (.cells #[.slice none 0 0] 27 (0, 0)) = w6 := ⟨_, rfl⟩
      have hb6 : Below w5.heap.size w5 w6 := by rw [← hw6]; exact below_alloc (Below.refl _ _) _
      have hK6 : w6.heap[w5.heap.size]? = some (.cells #[.slice none 0 0] 27 (0, 0)) := by rw [← hw6]; exact heap_alloc_new _ _
      have z6 : w6.cell? ⟨w5.heap.size, 0, none⟩ = some (.slice none 0 0) := (blk_cell hK6 0).trans rfl
      have f6 := blk_frozen hK6 0
      have hK7 := blk_put hK6 0 (.slice Aa N ca) rfl
      have hg7 : w6.grownBy (w6.setCell ⟨w5.heap.size, 0, none⟩ (.slice Aa N ca)) (some w5.heap.size) := ⟨rfl, rfl, rfl, by simp [World.setCell], fun k _ hk => Below.heap_setCell w6 _ _ k (fun e => hk (by rw [e]))⟩
      generalize hw7 : w6.setCell ⟨w5.heap.size, 0, none⟩ (.slice Aa N ca) = w7 at hK7 hg7
      have hb7 : Below w5.heap.size w5 w7 := pw_below_grown hb6 _ hb6.size hg7 (fun k hk => by cases hk; exact Nat.le_refl _)
      have y7 : w7.cell? ⟨w5.heap.size, 0, none⟩ = some (.slice Aa N ca) := (blk_cell hK7 0).trans rfl
      have hB7 := Aside0.mk (below_step hB5 hb7)
      have hCa7 := Aside0.mk (Kd.C_below hCa.out hb7)
      have hmm := @run_makeMap Try.prog
      have yl : (w7.alloc (.map #[] 0)).cell? ⟨w5.heap.size, 0, none⟩ = some (.slice Aa N ca) := (Below.cell (p := ⟨w5.heap.size, 0, none⟩) (below_alloc (Below.refl _ _) _) (blk_lt hK7)).trans y7
      clear hK6 hg7 hb6 hb5 hB5 hR5 hB4 hb4 hw4
      go_wp2
      clear hmm yl
      have hown0 := World.ownsMap_made (H := Unit) w7 Try.prog 23 (plainElem Try.prog 3)
      have hb0 : Below w7.heap.size w7 (w7.alloc (.map #[] 0)) := below_alloc (Below.refl _ _) _
      go_loopw [38] (fun v wr => ∃ (j : Nat) (D : DataW Unit), j ≤ N ∧ v = .int .i64 (j : Int) ∧ wr.ownsMap Try.prog 23 (plainElem Try.prog 3) w7.heap.size j D ∧ Has D ((al.take j).map (·.f0)) ∧ Below w7.heap.size w7 wr) (fun v _ => N - (intOf v).toNat)
      case atStart => exact ⟨0, _, by omega, rfl, hown0, has_none, hb0⟩
      case round =>
        clear hown0 hb0
        obtain ⟨j, D, hj, rfl, hown, hS, hB⟩ := hrel
        by_cases hlt : (j : Int) < (N : Int)
        · obtain ⟨bd, eB, p0, p1⟩ := at_T26 (Kd.C_below hCa7.out hB) (j : Int) (by omega) hlt
          subst eB
          have hts := take_snoc al j (by have := hN.out; omega)
          have hw1 := hwal.out (rd_T26 al j) (rd26_mem al j (by have := hN.out; omega))
          generalize rd_T26 al j = p at p0 p1 hts hw1
          rw [Int.toNat_natCast] at p0 p1
          obtain ⟨ks, hks⟩ : ∃ ks, (al.take j).map (·.f0) = ks := ⟨_, rfl⟩
          rw [hks] at hS hts
          have hkey : keyOf Try.prog 23 (.int .u64 p.f0) = some (.int .u64 p.f0) := Maps.keyOf_int_mk Try.underlying23 hw1
          obtain ⟨w8, hw8⟩ : ∃ w8, wr.alloc (.cells #[.int .u64 0, .string ⟨#[]⟩] 26 (0, 0)) = w8 := ⟨_, rfl⟩
          have hb8 : Below wr.heap.size wr w8 := by rw [← hw8]; exact below_alloc (Below.refl _ _) _
          have hK8 : w8.heap[wr.heap.size]? = some (.cells #[.int .u64 0, .string ⟨#[]⟩] 26 (0, 0)) := by rw [← hw8]; exact heap_alloc_new _ _
          have hmb := hown.lt
          have htd := hown.tidy (Maps.int_keyed Try.underlying23)
          have hS2 := fun d => has_snoc hS htd p.f0 d
          rw [← hts] at hS2
          replace hS2 := Lib.hid hS2
          replace hts := Lib.hid hts
          replace hks := Lib.hid hks
          replace htd := Lib.hid htd
          have hww := fun c : Int => wrap64_wf (c + 1)
          go_wp2_with (first
            | ((with_reducible refine gate_store (t := 26) (p := 13) rfl ?_); go_loud (refine wpList_storeBox rfl rfl 26 (.tmp 13) (.tmp 41) rfl (.agg #[.int .u64 p.f0, .string p.f1]) [.int .u64 p.f0, .string p.f1] rfl rfl rfl (by kernel_rfl) (by simp [Value.oneCell']) hK8 rfl ?_); intro w9 hK9 hg9 hs9; clear hs9; have hb9 := Aside0.mk (pw_below_grown hb8 _ hb8.size hg9 (fun k hk => by cases hk; exact Nat.le_refl _)); clear hw8 hb8 hK8 hg9 p0 p1; have y0 : w9.cell? ⟨wr.heap.size, 0, none⟩ = some (.int .u64 p.f0) := (blk_cell hK9 0).trans rfl; have hown1 := hown.kept (row := none) (below_grown hb9.out) (by simp))
            | (at_lookup; refine wpList_lookup_own_int _ rfl _ _ 62 rfl 23 3 .i64 (Maps.int_keyed Try.underlying23) Try.underlying62 Try.underlying3 (Try.zeroValue3 _) w7.heap.size j _ rfl hown1 _ _ rfl hkey ?_; intro c' hat _; clear hat)
            | (at_mapUpdate; refine wpList_mapUpdate_own _ rfl _ _ _ 62 rfl 23 3 (Maps.int_keyed Try.underlying23) Try.underlying62 _ w7.heap.size j _ rfl hown1 (by unfold maxLen; omega) _ _ _ rfl rfl hkey _ [] (plainElem_int Try.underlying3 (hww c')) ?_; intro w10 hown2 hg2; clear y0))
          have hB10 := Aside0.mk (pw_below_grown (below_step hB hb9.out) w7.heap.size (below_step hB hb9.out).size hg2 (fun k hk => by injection hk with hk; omega))
          go_roundw
          case rel => exact ⟨j + 1, _, by omega, by go_num, hown2, hS2.out _, hB10.out⟩
          case measure => simp [intOf]; omega
        · obtain rfl : j = N := by omega
          rw [List.take_of_length_le (by have := hN.out; omega)] at hS
          have htw := has_twice hS
          rw [hN.out] at htw
          have yb : wr.cell? ⟨w5.heap.size, 0, none⟩ = some (.slice Aa j ca) := (Below.cell (p := ⟨w5.heap.size, 0, none⟩) hB (blk_lt hK7)).trans y7
          have hBr := Aside0.mk (below_step hB7.out hB)
          have hCar := Aside0.mk (Kd.C_below hCa7.out hB)
          have hKr := (hB.block _ (blk_lt hK7)).trans hK7
          have hgl := Aside0.mk (blk_lt hKr)
          have y7r := Aside0.mk yb
          clear hK7 y7 hlt hKr
          replace hS := Lib.hid hS
          cases htb : twiceB al with
          | true =>
            rw [htb] at htw
            have h1 := of_decide_eq_true htw
            have hend := Lib.hid (fun W => hfin.out _ W (.inl ⟨htb, rfl⟩))
            go_wp2_with (at_len; refine wpList_len_own _ rfl _ 62 rfl 23 3 Try.underlying62 _ w7.heap.size j D rfl hown ?_)
            go_ret2
            exact ⟨hend.out _, hBr.out⟩
          | false =>
            rw [htb] at htw
            have h1 : ¬ ((Maps.size D : Int) < (j : Int)) := of_decide_eq_false htw
            by_cases h20 : (20 : Int) < (j : Int)
            · have hend := Lib.hid (fun W => hfin.out _ W (.inr (.inl ⟨htb, by have := hN.out; omega, rfl⟩)))
              go_wp2_with (at_len; refine wpList_len_own _ rfl _ 62 rfl 23 3 Try.underlying62 _ w7.heap.size j D rfl hown ?_)
              go_ret2
              exact ⟨hend.out _, hBr.out⟩
            · have hap := apart_calls Aa ca al wr (by rw [hN.out]; exact hCar.out) (by rw [hN.out]; exact hca) (by rw [hN.out]; omega) hwal.out
              rw [hN.out] at hap
              replace hap := Aside0.mk hap
              have h20' : al.length ≤ 20 := by have := hN.out; omega
              replace h20' := Lib.hid h20'
              go_wp2_with (at_len; refine wpList_len_own _ rfl _ 62 rfl 23 3 Try.underlying62 _ w7.heap.size j D rfl hown ?_)
              refine hap.out.mono ?_; rintro e_ w11 ⟨rfl, hb11⟩
              have hB11 := Aside0.mk (below_step hBr.out hb11)
              clear hap
              cases hab : apartB al with
              | false =>
                have hend := Lib.hid (fun W => hfin.out _ W (.inr (.inr (.inl ⟨htb, h20'.out, hab, rfl⟩))))
                go_wp2
                go_ret2
                exact ⟨hend.out _, hB11.out⟩
              | true =>
                have hend := Lib.hid (fun (A : Option Addr) (c : Nat) (W : World) (h1 : l0.length ≤ c) (h2 : k29.C W A l0.length (l0.set i { x with f3 := al })) => hfin.out (.returned (.tuple #[.slice A l0.length c, .int .i64 0])) W (.inr (.inr (.inr ⟨htb, h20'.out, hab, A, c, rfl, h1, h2⟩))))
                have hrep := Aside0.mk (replaced_calls 42 ⟨w5.heap.size, 0, none⟩ (some ad) c0 l0 i { x with f3 := al } w11 w11 (Below.refl _ _) enter42 (Kd.C_below hr0 hB11.out) hc0 hlen hi (by
                  intro W1 A c hbW h1 h2
                  rw [hx.out] at h1 h2 ⊢
                  have hbW' := below_step hb11 hbW
                  refine (more1_calls x A c Aa j ca w5.heap.size W1 (Nat.lt_of_lt_of_le hgl.out hbW'.size) ((Below.cell (p := ⟨w5.heap.size, 0, none⟩) hbW' hgl.out).trans y7r.out)).mono ?_
                  rintro e W2 ⟨rfl, hb⟩
                  refine ⟨Aa, ca, by show _ = Ending.returned (.agg #[.int .u64 x.f0, .string x.f1, .int .u64 x.f2.f0, .string x.f2.f1, .slice Aa al.length ca]); rw [hN.out], by show al.length ≤ ca; rw [hN.out]; exact hca, ?_, hb⟩
                  show k26.C w11 Aa al.length al
                  rw [hN.out]
                  exact Kd.C_below hCar.out hb11))
                clear yb
                go_wp2_with fail
                refine hrep.out.mono ?_; rintro e_ w12 ⟨v, rfl, hR12, hb12⟩
                obtain ⟨A, c, rfl, hcc, hC12⟩ := Kd.R_reads hR12
                rw [List.length_set] at hcc hC12
                have hC12' := Aside0.mk (kdAt_C hC12 hb12)
                have hB12 := Aside0.mk (below_step hB11.out hb12)
                clear hrep hR12 hC12
                go_wp2
                go_ret2
                exact ⟨hend.out A c _ hcc hC12'.out, hB12.out⟩
end Go.Proofs.Ytkomcddnfjbifaa.Q
