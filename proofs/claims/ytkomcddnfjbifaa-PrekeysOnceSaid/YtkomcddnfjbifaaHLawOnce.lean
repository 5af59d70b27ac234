/- PrekeysOnce: a one-time point is fetched once, in order; when there is none the others are still told; all other shelves stay.
   Conditions: the list is read as shelves. -/
import Derived.Test.YtkomcddnfjbifaaHLawFetch
import Derived.Test.YtkomcddnfjbifaaHOwn
import Derived.Test.YtkomcddnfjbifaaHPure
namespace Go.Proofs.Ytkomcddnfjbifaa.Q
open Go.RowKit Go.Proofs.YtkomcddnfjbifaaW.PrintWords Go.Proofs.YtkomcddnfjbifaaW.PrintLast Go.Proofs.YtkomcddnfjbifaaW.PrintMore
set_option linter.unusedVariables false
set_option linter.unusedSimpArgs false

theorem fetch_no {l : List S29} {u : Int} {e : Ending} {w' : World} (h : FetchE l u e w') (hR : rightB l = false) : e = .returned (.tuple #[.slice none 0 0, zer29, .int .i64 1]) := by
  rcases h with ⟨_, rfl⟩ | ⟨h, _⟩ | ⟨h, _⟩
  · rfl
  · rw [hR] at h; cases h
  · rw [hR] at h; cases h
theorem fetch_none {l : List S29} {u : Int} {e : Ending} {w' : World} (h : FetchE l u e w') (hR : rightB l = true) (hno : ∀ k : Nat, k < l.length → (rd_T29 l (k : Int)).f0 ≠ u) : e = .returned (.tuple #[.slice none 0 0, zer29, .int .i64 5]) := by
  rcases h with ⟨h, _⟩ | ⟨_, _, rfl⟩ | ⟨_, i, x, _, _, _, _, hi, hx, hu, _⟩
  · rw [hR] at h; cases h
  · rfl
  · exact absurd (hx ▸ hu) (hno i hi)
theorem fetch_some {w0 : World} {base : Nat} {l : List S29} {u : Int} {e : Ending} {w' : World} (h : FetchO w0 base l u e w') (hR : rightB l = true) {i : Nat} (hi : i < l.length) (hu : (rd_T29 l (i : Int)).f0 = u) {x : S29} (hx : rd_T29 l (i : Int) = x) :
    ∃ (A : Option Addr) (c : Nat) (B : Option Addr) (c' : Nat), e = .returned (.tuple #[.slice A l.length c, sv { x with f3 := x.f3.take 1 } B c', .int .i64 0]) ∧ l.length ≤ c ∧ Kd.R (kr w0) 29 w' base (fun _ => True) (.slice A l.length c) (l.set i { x with f3 := x.f3.drop 1 }) ∧
    (x.f3.take 1).length ≤ c' ∧ k26.C w0 B (x.f3.take 1).length (x.f3.take 1) := by
  rcases h with ⟨h, _⟩ | ⟨_, h, _⟩ | ⟨_, j, y, A, c, B, c', hj, hy, hu', h1, h2, h3, h4, h5⟩
  · rw [hR] at h; cases h
  · exact absurd hu (h i hi)
  · obtain rfl := right_one hR hj hi (by rw [hu, hy, hu'])
    obtain rfl : y = x := hy ▸ hx
    exact ⟨A, c, B, c', h1, h2, h3, h4, h5⟩
theorem kr_up {w0 w1 W : World} {e base : Nat} {ok : Nat → Prop} {v : Value} {xs : List S29} (h : Kd.R (kr w0) e W base ok v xs) (hb : Below w0.heap.size w0 w1) : Kd.R (kr w1) e W base ok v xs := ⟨h.1, h.2.imp_ (fun _ _ hp => k29.K_below hb hp)⟩
/-- The shelves after so many fetches. -/
def lt_ (l : List S29) (i : Nat) (x : S29) (t : Nat) : List S29 := l.set i { x with f3 := x.f3.drop t }
theorem lt_zero (l : List S29) (i : Nat) (x : S29) (hi : i < l.length) (hx : rd_T29 l (i : Int) = x) : lt_ l i x 0 = l := by
  unfold lt_
  rw [List.drop_zero, show ({ x with f3 := x.f3 } : S29) = x from rfl, ← hx, rd_nat l i hi, List.set_getElem_self]
theorem lt_succ (l : List S29) (i : Nat) (x : S29) (t : Nat) : (lt_ l i x t).set i { x with f3 := (x.f3.drop t).drop 1 } = lt_ l i x (t + 1) := by
  unfold lt_
  rw [List.set_set, List.drop_drop]
theorem lt_len (l : List S29) (i : Nat) (x : S29) (t : Nat) : (lt_ l i x t).length = l.length := List.length_set
theorem lt_at (l : List S29) (i : Nat) (x : S29) (t : Nat) (hi : i < l.length) : rd_T29 (lt_ l i x t) (i : Int) = { x with f3 := x.f3.drop t } := by
  unfold lt_
  rw [rd_set l i _ i hi, if_pos rfl]
theorem take_more (l : List S26) (t : Nat) : l.take t ++ (l.drop t).take 1 = l.take (t + 1) := by rw [List.take_add]
theorem small_lt {l : List S29} {i : Nat} {x : S29} (hx : x ∈ l) (P : S26 → Prop) (h : ∀ s ∈ l, ∀ p ∈ s.f3, P p) (t : Nat) : ∀ s ∈ lt_ l i x t, ∀ p ∈ s.f3, P p := by
  intro s hs p hp
  rcases List.mem_or_eq_of_mem_set hs with h1 | rfl
  · exact h s h1 p hp
  · exact h x hx p (List.mem_of_mem_drop hp)
set_option maxHeartbeats 4000000 in
set_option maxRecDepth 100000 in
theorem once_walk (A0 : Option Addr) (c0 : Nat) (l0 : List S29) (u : Int) (w : World) (hr0 : Kd.C k29 w A0 l0.length l0) (hc0 : l0.length ≤ c0) (g0 : good22 l0) (g1 : (Lit.int .u64 u).wf = true) :
    Calls Try.prog 4 #[.slice A0 l0.length c0, .int .u64 u] w fun e w' => e = .returned (.bool true) ∧ Below w.heap.size w w' := by
  have hsm := small_few l0 g0
  have hfw := Aside0.mk (few_own A0 c0 l0 w hr0 hc0)
  obtain ⟨l, hl⟩ : ∃ l, fewP l0 = l := ⟨_, rfl⟩
  rw [hl] at hsm hfw
  clear hr0 g0 hl hc0
  obtain ⟨hl10, hl22, hwf, hpos⟩ := hsm
  replace hl22 := Lib.hid hl22
  replace hwf := Aside0.mk hwf
  replace hpos := Aside0.mk hpos
  go_enter Try.func4, Try.ntmps4
  go_wp2_with fail
  refine hfw.out.mono ?_; rintro e_ w1 ⟨v, rfl, hR1, hb1⟩
  obtain ⟨A, c, rfl, hcc, hC1⟩ := Kd.R_reads hR1
  replace hC1 := Aside0.mk (kdAt_C hC1 hb1)
  replace hR1 := Aside0.mk (kr_up hR1 hb1)
  clear hfw
  have hLc := Aside0.mk (left_calls A c l u w1 hC1.out hcc (by omega) hwf.out)
  go_wp2_with fail
  refine hLc.out.mono ?_; rintro e_ w2 ⟨hL, hb2⟩
  clear hLc
  have hB2 := below_step hb1 hb2
  have hC2 := Aside0.mk (Kd.C_below hC1.out hb2)
  obtain ⟨w3, hw3⟩ : ∃ w3, w2.alloc (.cells #[.int .u64 0, .string ⟨#[]⟩, .int .u64 0, .string ⟨#[]⟩, .slice none 0 0] 29 (0, 0)) = w3 := ⟨_, rfl⟩
  have hb3 : Below w2.heap.size w2 w3 := by rw [← hw3]; exact below_alloc (Below.refl _ _) _
  have hs3 : w3.heap.size = w2.heap.size + 1 := by rw [← hw3]; simp
  have hK3 : w3.heap[w2.heap.size]? = some (.cells #[.int .u64 0, .string ⟨#[]⟩, .int .u64 0, .string ⟨#[]⟩, .slice none 0 0] 29 (0, 0)) := by rw [← hw3]; exact heap_alloc_new _ _
  rcases hL with ⟨hR, rfl⟩ | ⟨hR, hno, rfl⟩ | ⟨hR, i, hi, hu, rfl⟩
  · have hfc := Aside0.mk (fetch_calls A c l u w2 hC2.out hcc (by omega) hwf.out)
    clear hw3 hb3 hs3 hK3 w3
    go_wp2_with fail
    refine hfc.out.mono ?_; rintro e_ w4 ⟨hF, hb4⟩
    obtain rfl := fetch_no hF hR
    clear hfc
    obtain ⟨w5, hw5⟩ : ∃ w5, w4.alloc (.cells #[.int .u64 0, .string ⟨#[]⟩, .int .u64 0, .string ⟨#[]⟩, .slice none 0 0] 29 (0, 0)) = w5 := ⟨_, rfl⟩
    have hb5 : Below w4.heap.size w4 w5 := by rw [← hw5]; exact below_alloc (Below.refl _ _) _
    have hK5 : w5.heap[w4.heap.size]? = some (.cells #[.int .u64 0, .string ⟨#[]⟩, .int .u64 0, .string ⟨#[]⟩, .slice none 0 0] 29 (0, 0)) := by rw [← hw5]; exact heap_alloc_new _ _
    go_wp2_with ((with_reducible refine gate_store (t := 29) (p := 8) rfl ?_); go_loud (refine wpList_storeBox rfl rfl 29 (.tmp 8) (.tmp 34) rfl zer29 [.int .u64 0, .string ⟨#[]⟩, .int .u64 0, .string ⟨#[]⟩, .slice none 0 0] rfl rfl rfl (by kernel_rfl) (by simp [Value.oneCell']) hK5 rfl ?_); intro w6 hK6 hg6 hs6; have hb46 := Aside0.mk (pw_below_grown hb5 _ hb5.size hg6 (fun k hk => by cases hk; exact Nat.le_refl _)); clear hw5 hb5 hK5 hg6)
    refine (alive_calls w6).mono ?_; rintro e_ w7 ⟨rfl, hb7⟩
    go_wp2
    go_ret
    exact ⟨rfl, below_step hB2 (below_step hb4 (below_step hb46.out hb7))⟩
  · have hfc := Aside0.mk (fetch_calls A c l u w2 hC2.out hcc (by omega) hwf.out)
    clear hw3 hb3 hs3 hK3 w3
    go_wp2_with fail
    refine hfc.out.mono ?_; rintro e_ w4 ⟨hF, hb4⟩
    obtain rfl := fetch_none hF hR hno
    clear hfc
    obtain ⟨w5, hw5⟩ : ∃ w5, w4.alloc (.cells #[.int .u64 0, .string ⟨#[]⟩, .int .u64 0, .string ⟨#[]⟩, .slice none 0 0] 29 (0, 0)) = w5 := ⟨_, rfl⟩
    have hb5 : Below w4.heap.size w4 w5 := by rw [← hw5]; exact below_alloc (Below.refl _ _) _
    have hK5 : w5.heap[w4.heap.size]? = some (.cells #[.int .u64 0, .string ⟨#[]⟩, .int .u64 0, .string ⟨#[]⟩, .slice none 0 0] 29 (0, 0)) := by rw [← hw5]; exact heap_alloc_new _ _
    go_wp2_with ((with_reducible refine gate_store (t := 29) (p := 8) rfl ?_); go_loud (refine wpList_storeBox rfl rfl 29 (.tmp 8) (.tmp 34) rfl zer29 [.int .u64 0, .string ⟨#[]⟩, .int .u64 0, .string ⟨#[]⟩, .slice none 0 0] rfl rfl rfl (by kernel_rfl) (by simp [Value.oneCell']) hK5 rfl ?_); intro w6 hK6 hg6 hs6; have hb46 := Aside0.mk (pw_below_grown hb5 _ hb5.size hg6 (fun k hk => by cases hk; exact Nat.le_refl _)); clear hw5 hb5 hK5 hg6)
    refine (alive_calls w6).mono ?_; rintro e_ w7 ⟨rfl, hb7⟩
    go_wp2
    go_ret
    exact ⟨rfl, below_step hB2 (below_step hb4 (below_step hb46.out hb7))⟩
  · obtain ⟨x, hx⟩ : ∃ x, rd_T29 l (i : Int) = x := ⟨_, rfl⟩
    rw [hx] at hu ⊢
    have hxm : x ∈ l := hx ▸ rd29_mem l i hi
    have hx22 : x.f3.length ≤ 22 := hl22.out x hxm
    obtain ⟨n, hn⟩ : ∃ n, x.f3.length = n := ⟨_, rfl⟩
    rw [hn]
    have hwn : wrap64 ((n : Int) + 2) = (n : Int) + 2 := wrap_in' _ (by omega) (by omega)
    have hat := at_here l u (by omega) hR i hi (by rw [hx]; exact hu)
    have hRt : ∀ t, rightB (lt_ l i x t) = true := fun t => right_drop hR i x hi hx t
    have hst := fun (P : S26 → Prop) h t => small_lt (i := i) hxm P h t
    have hl0 := lt_zero l i x hi hx
    have hRn : Kd.R (kr w1) 29 w3 0 (fun k => k ≠ w2.heap.size) (.slice A l.length c) l := Kd.R_reok rfl (Kd.R_lower (Kd.R_below hR1.out (below_step hb2 hb3)) (Nat.zero_le _)) (fun k hk => by have := Kd.R_lt hR1.out k hk; have := hb2.size; omega)
    replace hRn := Aside0.mk hRn
    replace hx := Lib.hid hx
    replace hu := Lib.hid hu
    replace hat := Aside0.mk hat
    replace hRt := Aside0.mk hRt
    replace hst := Aside0.mk hst
    replace hl0 := Aside0.mk hl0
    replace hxm := Lib.hid hxm
    go_wp2
    go_loopw [10, 11, 49] (fun vn vg vt wr => ∃ t : Nat, t ≤ n + 2 ∧ vt = .int .i64 (t : Int) ∧ Kd.R (kr w1) 29 wr 0 (fun k => k ≠ w2.heap.size) vn (lt_ l i x t) ∧ Kd.R k26 26 wr w2.heap.size (fun k => k ≠ w2.heap.size) vg (x.f3.take t) ∧
      (∃ y B cB, wr.heap[w2.heap.size]? = some (boxS y B cB) ∧ y.f3.length ≤ cB ∧ k26.C w1 B y.f3.length y.f3 ∧ (0 < t → y = { x with f3 := (x.f3.drop (t - 1)).take 1 })) ∧ Below w2.heap.size w2 wr) (fun _ _ vt _ => n + 2 - (intOf vt).toNat)
    case atStart => exact ⟨0, by omega, rfl, by rw [hl0.out]; exact hRn.out, by rw [List.take_zero]; exact Kd.R_nil _ _ _ _ _, ⟨z29_, none, 0, hK3, Nat.le_refl _, Kd.C_nil _ _, fun h => absurd h (Nat.lt_irrefl 0)⟩, hb3⟩
    case round =>
      obtain ⟨t, ht, rfl, hRn', hRg, ⟨y, B, cB, hK12, hy1, hy2, hy3⟩, hBr⟩ := hrel
      by_cases hlt : (t : Int) < (n : Int) + 2
      · obtain ⟨A5, c5, rfl, hc5, hC5⟩ := Kd.R_reads hRn'
        have hfo := fetch_own A5 c5 (lt_ l i x t) u w1 wr (below_step hb2 hBr) hC5 hc5 (by rw [lt_len]; omega) (hst.out _ hwf.out t)
        have hlen := lt_len l i x t
        rw [hlen] at hfo ⊢
        replace hfo := Aside0.mk hfo
        replace hlen := Lib.hid hlen
        replace hy3 := Lib.hid hy3
        replace hC5 := Aside0.mk hC5
        go_wp2_with fail
        refine hfo.out.mono ?_; rintro e_ w4 ⟨hF, hb4⟩
        obtain ⟨A6, c6, B6, d6, rfl, hc6, hR6, hd6, hC6⟩ := fetch_some hF (hRt.out t) (by rw [lt_len]; exact hi) (by rw [lt_at l i x t hi]; exact hu.out) (lt_at l i x t hi)
        clear hF hfo
        rw [show ({ ({ x with f3 := x.f3.drop t } : S29) with f3 := ({ x with f3 := x.f3.drop t } : S29).f3.drop 1 } : S29) = { x with f3 := (x.f3.drop t).drop 1 } from rfl, lt_succ] at hR6
        rw [hlen.out] at hR6 hc6 ⊢
        obtain ⟨z, hz⟩ : ∃ z : S29, ({ x with f3 := (x.f3.drop t).take 1 } : S29) = z := ⟨_, rfl⟩
        rw [show ({ ({ x with f3 := x.f3.drop t } : S29) with f3 := ({ x with f3 := x.f3.drop t } : S29).f3.take 1 } : S29) = z from hz]
        rw [show (({ x with f3 := x.f3.drop t } : S29).f3.take 1) = z.f3 from by rw [← hz]] at hd6 hC6
        have hz1 : z.f3.length ≤ 1 := by rw [← hz]; show ((x.f3.drop t).take 1).length ≤ 1; rw [List.length_take]; omega
        replace hz := Lib.hid hz
        replace hC6 := Aside0.mk hC6
        obtain ⟨w5, hw5⟩ : ∃ w5, w4.alloc (.cells #[.int .u64 0, .string ⟨#[]⟩, .int .u64 0, .string ⟨#[]⟩, .slice none 0 0] 29 (0, 0)) = w5 := ⟨_, rfl⟩
        have hb5 : Below w4.heap.size w4 w5 := by rw [← hw5]; exact below_alloc (Below.refl _ _) _
        have hs5 : w5.heap.size = w4.heap.size + 1 := by rw [← hw5]; simp
        have hK5 : w5.heap[w4.heap.size]? = some (.cells #[.int .u64 0, .string ⟨#[]⟩, .int .u64 0, .string ⟨#[]⟩, .slice none 0 0] 29 (0, 0)) := by rw [← hw5]; exact heap_alloc_new _ _
        have hvl := Aside0.mk (Kd.R_lt hRg)
        have hvne := Aside0.mk hRg.1
        have hAl := Aside0.mk (Kd.R_base hR6)
        have hs4 := Aside0.mk hb4.size
        have hg12r := Aside0.mk (blk_lt hK12)
        replace hRg := Aside0.mk hRg
        replace hR6 := Aside0.mk hR6
        replace hRn' := Aside0.mk hRn'
        clear hy1 hy2 hC5
        go_wp2_with ((with_reducible refine gate_store (t := 29) (p := 14) rfl ?_); go_loud (refine wpList_storeBox rfl rfl 29 (.tmp 14) (.tmp 56) rfl (sv z B6 d6) [.int .u64 z.f0, .string z.f1, .int .u64 z.f2.f0, .string z.f2.f1, .slice B6 z.f3.length d6] rfl rfl rfl (by kernel_rfl) (by simp [Value.oneCell']) hK5 rfl ?_); intro w6 hK6 hg6 hs6; have hb46 := Aside0.mk (pw_below_grown hb5 _ hb5.size hg6 (fun k hk => by cases hk; exact Nat.le_refl _)); clear hw5 hb5 hK5 hg6)
        have hB6 := Aside0.mk (below_step hb4 hb46.out)
        have hrc := right_calls A6 c6 (lt_ l i x (t + 1)) w6 (by rw [lt_len]; exact kdAt_C (by have := (Kd.R_reads' (Kd.R_below hR6.out hb46.out)).2.2; rwa [lt_len] at this) (below_step hb2 (below_step hBr hB6.out))) (by rw [lt_len]; exact hc6) (by rw [lt_len]; omega) (hst.out _ hwf.out (t + 1))
        rw [hRt.out (t + 1), lt_len] at hrc
        replace hrc := Aside0.mk hrc
        go_wp2_with fail
        refine hrc.out.mono ?_; rintro e_ w7 ⟨rfl, hb7⟩
        have hB7 := Aside0.mk (below_step hB6.out hb7)
        have HG := Aside0.mk (Kd.R_below hRg.out hB7.out)
        have HZ := Aside0.mk (Kd.C_below hC6.out (below_step hb2 (below_step hBr hB7.out)))
        have HB7 := Aside0.mk (below_step hBr hB7.out)
        have hK14 := (hb7.block _ (blk_lt hK6)).trans hK6
        have hK12 := (hB7.out.block _ (blk_lt hK12)).trans hK12
        have hg12 : w2.heap.size < w7.heap.size := blk_lt hK12
        have hroom : Aside0 (((x.f3.take t).length + z.f3.length) * 24 ≤ 140737488355328) := Aside0.mk (by rw [List.length_take]; omega)
        have hR7 := Aside0.mk (Kd.R_below (Kd.R_below hR6.out hb46.out) hb7)
        clear hrc hK6 hb7
        go_wp2
        refine start_ (n := 9) (S := fun w' => w'.cell? ⟨w4.heap.size, 0, none⟩ = some (.int .u64 z.f0) ∧ w'.cell? ⟨w4.heap.size, 1, none⟩ = some (.string z.f1) ∧ w'.cell? ⟨w4.heap.size, 2, none⟩ = some (.int .u64 z.f2.f0) ∧ w'.cell? ⟨w4.heap.size, 3, none⟩ = some (.string z.f2.f1) ∧ w'.cell? ⟨w4.heap.size, 4, none⟩ = some (.slice B6 z.f3.length d6)) (ds := [7]) #[false, false, false, false, false, false, false, false, false] (by kernel_rfl) rfl rfl ⟨(box5 hK14).1, (box5 hK14).2.1, (box5 hK14).2.2.1, (box5 hK14).2.2.2.1, (box5 hK14).2.2.2.2⟩ (fun hHeld => ?_)
        refine pure_ (i := 0) (N := some 72) (v := ?_) (a' := ?_) #[true, false, false, false, false, false, false, false, false] rfl rfl (by kernel_rfl) (fun _ _ _ h => h) (Or.inl ⟨by rfl, ?_⟩) ?_ ?_
        rotate_left
        · intro w'
          go_simp
          with_reducible rfl
        rotate_left
        · simp only [Act.put, List.setIfInBounds_toArray, List.set_cons_zero, List.set_cons_succ, i64_w, i32_w]
          rfl
        refine pure_ (i := 2) (N := some 74) (v := ?_) (a' := ?_) #[true, false, true, false, false, false, false, false, false] rfl rfl (by kernel_rfl) (fun _ _ _ h => h) (Or.inl ⟨by rfl, ?_⟩) ?_ ?_
        rotate_left
        · intro w'
          go_simp
          with_reducible rfl
        rotate_left
        · simp only [Act.put, List.setIfInBounds_toArray, List.set_cons_zero, List.set_cons_succ, i64_w, i32_w]
          rfl
        refine pure_ (i := 3) (N := some 75) (v := ?_) (a' := ?_) #[true, false, true, true, false, false, false, false, false] rfl rfl (by kernel_rfl) (fun _ _ _ h => h) (Or.inl ⟨by rfl, ?_⟩) ?_ ?_
        rotate_left
        · intro w'
          go_simp
          with_reducible rfl
        rotate_left
        · simp only [Act.put, List.setIfInBounds_toArray, List.set_cons_zero, List.set_cons_succ, i64_w, i32_w]
          rfl
        refine take_ (i := 1) (N := some 73) (v := ?_) (a' := ?_) #[true, true, true, true, false, false, false, false, false] rfl rfl (by kernel_rfl) (fun _ _ _ h => h) (Or.inl ⟨by rfl, ?_⟩) hHeld ?_ ?_
        rotate_left
        · rintro w' ⟨s0, s1, s2, s3, s4⟩
          go_simp
          with_reducible rfl
        rotate_left
        · simp only [Act.put, List.setIfInBounds_toArray, List.set_cons_zero, List.set_cons_succ, i64_w, i32_w]
          rfl
        refine take_ (i := 4) (N := some 76) (v := ?_) (a' := ?_) #[true, true, true, true, true, false, false, false, false] rfl rfl (by kernel_rfl) (fun _ _ _ h => h) (Or.inl ⟨by rfl, ?_⟩) hHeld ?_ ?_
        rotate_left
        · rintro w' ⟨s0, s1, s2, s3, s4⟩
          go_simp
          with_reducible rfl
        rotate_left
        · simp only [Act.put, List.setIfInBounds_toArray, List.set_cons_zero, List.set_cons_succ, i64_w, i32_w]
          rfl
        refine one_ (i := 5) (N := some 77) #[true, true, true, true, true, true, false, false, false] rfl rfl (by kernel_rfl) (by decide) (fun K hK => ?_)
        refine Kd.R_append_rows_step k26 (w0 := w2) w2.heap.size (by rfl) (.tmp 74) (.tmp 76) 27 26 (.agg #[(.int .u64 0), (.string ⟨#[]⟩)]) 24 rfl Try.underlying27 info26 rfl (by decide) (by decide) _ (x.f3.take t) z.f3 _ _ _ (fun k => k ≠ w2.heap.size) (fun _ => False) rfl (by rfl) (Kd.R_drew HG.out) (Kd.C_drew HZ.out) (fun _ _ h => by obtain rfl := k26_open h; exact k26_mkM _ _ _ _) (fun _ h => h.elim) (fun k hk => Nat.ne_of_gt (Nat.lt_of_lt_of_le hg12 hk)) HB7.out.drew HB7.out.size hroom.out ?_
        intro v8 w8 ho hb8 hg8 hat8
        replace ho := Aside0.mk ho
        have hK14_8 := (hg8.block _ (blk_lt hK14) (fun e => by have := hvl.out _ e.symm; have := hs4.out; omega)).trans hK14
        have hK12_8 := (hg8.block _ (blk_lt hK12) (fun e => hvne.out _ e.symm rfl)).trans hK12
        refine hK.out _ _ ⟨(box5 hK14_8).1, (box5 hK14_8).2.1, (box5 hK14_8).2.2.1, (box5 hK14_8).2.2.2.1, (box5 hK14_8).2.2.2.2⟩ (fun hHeld => ?_)
        clear hK K
        refine norm_ (a' := ?_) ?_ ?_
        rotate_left
        · show Act.put _ (some 77) _ = _
          simp only [Act.put, List.setIfInBounds_toArray, List.set_cons_zero, List.set_cons_succ, i64_w, i32_w]
          rfl
        refine pure_ (i := 6) (N := some 10) (v := ?_) (a' := ?_) #[true, true, true, true, true, true, true, false, false] rfl rfl (by kernel_rfl) (fun _ _ _ h => h) (Or.inl ⟨by rfl, ?_⟩) ?_ ?_
        rotate_left
        · intro w'
          go_simp
          with_reducible rfl
        rotate_left
        · simp only [Act.put, List.setIfInBounds_toArray, List.set_cons_zero, List.set_cons_succ, i64_w, i32_w]
          rfl
        refine last_ (i := 7) (N := none) #[true, true, true, true, true, true, true, true, false] rfl rfl (by kernel_rfl) (by decide) (fun K hK => ?_)
        refine skip_storeBox (by rfl) rfl 29 (.tmp 12) (.tmp 73) rfl (.agg #[.int .u64 z.f0, .string z.f1, .int .u64 z.f2.f0, .string z.f2.f1, .slice B6 z.f3.length d6]) [.int .u64 z.f0, .string z.f1, .int .u64 z.f2.f0, .string z.f2.f1, .slice B6 z.f3.length d6] rfl rfl rfl (by kernel_rfl) (by simp [Value.oneCell']) hK12_8 rfl ?_
        intro w9 hK9 hg9 hs9
        refine hK.out _ _ ?_
        clear hK K
        refine pure_ (i := 8) (N := some 11) (v := ?_) (a' := ?_) #[true, true, true, true, true, true, true, true, true] rfl rfl (by kernel_rfl) (fun _ _ _ h => h) (Or.inl ⟨by rfl, ?_⟩) ?_ ?_
        rotate_left
        · intro w'
          go_simp
          with_reducible rfl
        rotate_left
        · simp only [Act.put, List.setIfInBounds_toArray, List.set_cons_zero, List.set_cons_succ, i64_w, i32_w]
          rfl
        refine done_ (by kernel_rfl) ?_
        have hR8 := Kd.R_grown (Kd.R_tight rfl (Kd.R_drew hR7.out)) hg8 (fun k hk he => by have h1 := hAl.out k hk.symm; have h2 := hvl.out k he.symm; omega)
        have hR9 := Kd.R_grown (Kd.R_tight rfl hR8) hg9 (fun k hk he => by have h1 := hAl.out k hk.symm; have h2 := hg12r.out; injection he with he; omega)
        have hR10 : Kd.R (kr w1) 29 w9 0 (fun k => k ≠ w2.heap.size) (.slice A6 l.length c6) (lt_ l i x (t + 1)) := Kd.R_reok rfl (Kd.R_lower hR9 (Nat.zero_le _)) (fun k hk => by have := hAl.out k hk; have := hg12r.out; omega)
        have hG9 := Kd.R_grown ho.out hg9 (fun k hk he => hk (Option.some.inj he))
        rw [show x.f3.take t ++ z.f3 = x.f3.take (t + 1) by rw [← hz.out]; exact take_more _ _] at hG9
        have hB9 := hb8.grown hg9 hb8.size (fun k hk => by cases hk; exact Nat.le_refl _)
        replace hR10 := Aside0.mk hR10
        replace hG9 := Aside0.mk hG9
        clear hR8 hR9 hR7 ho hg8 hg9 hHeld hK14_8 hK12_8
        go_wp2
        go_roundw
        case rel => exact ⟨t + 1, by omega, by go_num, hR10.out, hG9.out, ⟨z, B6, d6, hK9, hd6, hC6.out, fun _ => by rw [Nat.add_sub_cancel]; exact hz.out.symm⟩, hB9⟩
        case measure => simp [intOf]; omega
      · obtain rfl : t = n + 2 := by omega
        obtain ⟨A5, c5, rfl, hc5, hC5⟩ := Kd.R_reads hRn'
        obtain ⟨Ag, cg, rfl, hcg, hCg⟩ := Kd.R_reads hRg
        rw [List.take_of_length_le (show x.f3.length ≤ n + 2 by omega)] at hcg hCg ⊢
        obtain rfl := hy3 (by omega)
        have hy0 : ((x.f3.drop (n + 2 - 1)).take 1) = [] := by rw [List.drop_eq_nil_of_le (by omega)]; rfl
        rw [hy0] at hK12
        have hac := Aside0.mk (demurralref15_At.calls 2000 A c l u _ wr (Kd.C_below hC2.out hBr) hcc hat.out)
        have hlen := lt_len l i x (n + 2)
        rw [hlen] at hc5 hC5 ⊢
        replace hlen := Lib.hid hlen
        clear hy1 hy2 hy3 hRn' hRg hy0
        go_wp2_with fail
        refine hac.out.mono ?_; rintro e_ w10 ⟨rfl, hb10⟩
        have hB10 := below_step hBr hb10
        clear hac
        obtain ⟨ad, A4, c4, eA, q0, q1, q2, q3, q4, hc4, hC4⟩ := at_T29 (Kd.C_below hC2.out hB10) (i : Int) (by omega) (by omega)
        subst eA
        rw [hx.out, Int.toNat_natCast] at q0 q1 q2 q3 q4
        rw [hx.out] at hc4 hC4
        rw [hn] at hc4 hC4 q4 hcg hCg
        have hadl : (ad.add (i * 5)).block < w10.heap.size := block_lt_of_cell q0
        have hq : Hid (∀ W, Below w10.heap.size w10 W → W.cell? (ad.add (i * 5)) = some (.int .u64 x.f0) ∧ W.cell? ⟨(ad.add (i * 5)).block, (ad.add (i * 5)).off + 1, none⟩ = some (.string x.f1) ∧ W.cell? ⟨(ad.add (i * 5)).block, (ad.add (i * 5)).off + 2, none⟩ = some (.int .u64 x.f2.f0) ∧ W.cell? ⟨(ad.add (i * 5)).block, (ad.add (i * 5)).off + 3, none⟩ = some (.string x.f2.f1) ∧ W.cell? ⟨(ad.add (i * 5)).block, (ad.add (i * 5)).off + 4, none⟩ = some (.slice A4 n c4)) := Lib.hid fun W hW => by
          have hl : (ad.add (i * 5)).block < w10.heap.size := hadl
          exact ⟨(Below.cell (p := (ad.add (i * 5))) hW hl).trans q0, (Below.cell (p := ⟨(ad.add (i * 5)).block, (ad.add (i * 5)).off + 1, none⟩) hW hl).trans q1, (Below.cell (p := ⟨(ad.add (i * 5)).block, (ad.add (i * 5)).off + 2, none⟩) hW hl).trans q2, (Below.cell (p := ⟨(ad.add (i * 5)).block, (ad.add (i * 5)).off + 3, none⟩) hW hl).trans q3, (Below.cell (p := ⟨(ad.add (i * 5)).block, (ad.add (i * 5)).off + 4, none⟩) hW hl).trans q4⟩
        have hK12' := (hb10.block _ (blk_lt hK12)).trans hK12
        have hqL : Hid (∀ W, Below w10.heap.size w10 W → W.cell? ⟨w2.heap.size, 0, none⟩ = some (.int .u64 x.f0) ∧ W.cell? ⟨w2.heap.size, 1, none⟩ = some (.string x.f1) ∧ W.cell? ⟨w2.heap.size, 2, none⟩ = some (.int .u64 x.f2.f0) ∧ W.cell? ⟨w2.heap.size, 3, none⟩ = some (.string x.f2.f1) ∧ W.cell? ⟨w2.heap.size, 4, none⟩ = some (.slice B 0 cB)) := Lib.hid fun W hW => box5 ((hW.block _ (blk_lt hK12')).trans hK12')
        have HCg := Aside0.mk (Kd.C_below hCg hb10)
        have HC4 := Aside0.mk hC4
        have hsame : Hid (demurralref15_PointsSame.f 100 x.f3 x.f3 = some true) := Lib.hid (by rw [← ptsB_refl x.f3]; exact pts_f _ _ (by omega) 100 (by omega))
        have hpc : Hid (∀ W, k26.C W Ag n x.f3 → k26.C W A4 n x.f3 → Calls Try.prog 20 #[.slice Ag n cg, .slice A4 n c4] W fun e w' => e = .returned (.bool true) ∧ Drawn0 W w') := Lib.hid fun W h1 h2 => by
          rw [← hn] at h1 h2 hcg hc4 ⊢
          exact demurralref15_PointsSame.calls 100 Ag cg x.f3 A4 c4 x.f3 true W h1 hcg h2 hc4 hsame.out
        have hin : (i : Int) < l.length := by omega
        replace hC5 := Aside0.mk hC5
        clear q0 q1 q2 q3 q4 hadl hK12 hK12' hCg hC4
        have hni : decide ((i : Int) < 0) = false := decide_eq_false (by omega)
        go_wp2
        refine start_ (n := 42) (S := fun w' => w'.cell? (ad.add (i * 5)) = some (.int .u64 x.f0) ∧ w'.cell? ⟨(ad.add (i * 5)).block, (ad.add (i * 5)).off + 1, none⟩ = some (.string x.f1) ∧ w'.cell? ⟨(ad.add (i * 5)).block, (ad.add (i * 5)).off + 2, none⟩ = some (.int .u64 x.f2.f0) ∧ w'.cell? ⟨(ad.add (i * 5)).block, (ad.add (i * 5)).off + 3, none⟩ = some (.string x.f2.f1) ∧ w'.cell? ⟨(ad.add (i * 5)).block, (ad.add (i * 5)).off + 4, none⟩ = some (.slice A4 n c4) ∧ w'.cell? ⟨w2.heap.size, 0, none⟩ = some (.int .u64 x.f0) ∧ w'.cell? ⟨w2.heap.size, 1, none⟩ = some (.string x.f1) ∧ w'.cell? ⟨w2.heap.size, 2, none⟩ = some (.int .u64 x.f2.f0) ∧ w'.cell? ⟨w2.heap.size, 3, none⟩ = some (.string x.f2.f1) ∧ w'.cell? ⟨w2.heap.size, 4, none⟩ = some (.slice B 0 cB)) (ds := []) #[false, false, false, false, false, false, false, false, false, false, false, false, false, false, false, false, false, false, false, false, false, false, false, false, false, false, false, false, false, false, false, false, false, false, false, false, false, false, false, false, false, false] (by kernel_rfl) rfl rfl ⟨(hq.out _ (Below.refl w10.heap.size w10).drew).1, (hq.out _ (Below.refl w10.heap.size w10).drew).2.1, (hq.out _ (Below.refl w10.heap.size w10).drew).2.2.1, (hq.out _ (Below.refl w10.heap.size w10).drew).2.2.2.1, (hq.out _ (Below.refl w10.heap.size w10).drew).2.2.2.2, (hqL.out _ (Below.refl w10.heap.size w10).drew).1, (hqL.out _ (Below.refl w10.heap.size w10).drew).2.1, (hqL.out _ (Below.refl w10.heap.size w10).drew).2.2.1, (hqL.out _ (Below.refl w10.heap.size w10).drew).2.2.2.1, (hqL.out _ (Below.refl w10.heap.size w10).drew).2.2.2.2⟩ (fun hHeld => ?_)
        refine pure_ (i := 0) (N := some 82) (v := ?_) (a' := ?_) #[true, false, false, false, false, false, false, false, false, false, false, false, false, false, false, false, false, false, false, false, false, false, false, false, false, false, false, false, false, false, false, false, false, false, false, false, false, false, false, false, false, false] rfl rfl (by kernel_rfl) (fun _ _ _ h => h) (Or.inl ⟨by rfl, ?_⟩) ?_ ?_
        rotate_left
        · intro w'
          go_simp
          with_reducible rfl
        rotate_left
        · simp only [Act.put, List.setIfInBounds_toArray, List.set_cons_zero, List.set_cons_succ, i64_w, i32_w]
          rfl
        refine pure_ (i := 1) (N := some 83) (v := ?_) (a' := ?_) #[true, true, false, false, false, false, false, false, false, false, false, false, false, false, false, false, false, false, false, false, false, false, false, false, false, false, false, false, false, false, false, false, false, false, false, false, false, false, false, false, false, false] rfl rfl (by kernel_rfl) (fun _ _ _ h => h) (Or.inl ⟨by rfl, ?_⟩) ?_ ?_
        rotate_left
        · intro w'
          go_simp
          with_reducible rfl
        rotate_left
        · simp only [Act.put, List.setIfInBounds_toArray, List.set_cons_zero, List.set_cons_succ, i64_w, i32_w]
          rfl
        refine pure_ (i := 2) (N := some 84) (v := ?_) (a' := ?_) #[true, true, true, false, false, false, false, false, false, false, false, false, false, false, false, false, false, false, false, false, false, false, false, false, false, false, false, false, false, false, false, false, false, false, false, false, false, false, false, false, false, false] rfl rfl (by kernel_rfl) (fun _ _ _ h => h) (Or.inl ⟨by rfl, ?_⟩) ?_ ?_
        rotate_left
        · intro w'
          go_simp
          with_reducible rfl
        rotate_left
        · simp only [Act.put, List.setIfInBounds_toArray, List.set_cons_zero, List.set_cons_succ, i64_w, i32_w]
          rfl
        refine pure_ (i := 3) (N := some 85) (v := ?_) (a' := ?_) #[true, true, true, true, false, false, false, false, false, false, false, false, false, false, false, false, false, false, false, false, false, false, false, false, false, false, false, false, false, false, false, false, false, false, false, false, false, false, false, false, false, false] rfl rfl (by kernel_rfl) (fun _ _ _ h => h) (Or.inl ⟨by rfl, ?_⟩) ?_ ?_
        rotate_left
        · intro w'
          go_simp
          with_reducible rfl
        rotate_left
        · simp only [Act.put, List.setIfInBounds_toArray, List.set_cons_zero, List.set_cons_succ, i64_w, i32_w]
          rfl
        refine pure_ (i := 4) (N := some 86) (v := ?_) (a' := ?_) #[true, true, true, true, true, false, false, false, false, false, false, false, false, false, false, false, false, false, false, false, false, false, false, false, false, false, false, false, false, false, false, false, false, false, false, false, false, false, false, false, false, false] rfl rfl (by kernel_rfl) (fun _ _ _ h => h) (Or.inl ⟨by rfl, ?_⟩) ?_ ?_
        rotate_left
        · intro w'
          go_simp
          with_reducible rfl
        rotate_left
        · simp only [Act.put, List.setIfInBounds_toArray, List.set_cons_zero, List.set_cons_succ, i64_w, i32_w]
          rfl
        refine pure_ (i := 5) (N := some 87) (v := ?_) (a' := ?_) #[true, true, true, true, true, true, false, false, false, false, false, false, false, false, false, false, false, false, false, false, false, false, false, false, false, false, false, false, false, false, false, false, false, false, false, false, false, false, false, false, false, false] rfl rfl (by kernel_rfl) (fun _ _ _ h => h) (Or.inl ⟨by rfl, ?_⟩) ?_ ?_
        rotate_left
        · intro w'
          go_simp
          with_reducible rfl
        rotate_left
        · simp only [Act.put, List.setIfInBounds_toArray, List.set_cons_zero, List.set_cons_succ, i64_w, i32_w]
          rfl
        refine pure_ (i := 6) (N := some 88) (v := ?_) (a' := ?_) #[true, true, true, true, true, true, true, false, false, false, false, false, false, false, false, false, false, false, false, false, false, false, false, false, false, false, false, false, false, false, false, false, false, false, false, false, false, false, false, false, false, false] rfl rfl (by kernel_rfl) (fun _ _ _ h => h) (Or.inl ⟨by rfl, ?_⟩) ?_ ?_
        rotate_left
        · intro w'
          go_simp
          with_reducible rfl
        rotate_left
        · simp only [Act.put, List.setIfInBounds_toArray, List.set_cons_zero, List.set_cons_succ, i64_w, i32_w]
          rfl
        refine pure_ (i := 7) (N := some 89) (v := ?_) (a' := ?_) #[true, true, true, true, true, true, true, true, false, false, false, false, false, false, false, false, false, false, false, false, false, false, false, false, false, false, false, false, false, false, false, false, false, false, false, false, false, false, false, false, false, false] rfl rfl (by kernel_rfl) (fun _ _ _ h => h) (Or.inl ⟨by rfl, ?_⟩) ?_ ?_
        rotate_left
        · intro w'
          go_simp
          with_reducible rfl
        rotate_left
        · simp only [Act.put, List.setIfInBounds_toArray, List.set_cons_zero, List.set_cons_succ, i64_w, i32_w]
          rfl
        refine take_ (i := 8) (N := some 90) (v := ?_) (a' := ?_) #[true, true, true, true, true, true, true, true, true, false, false, false, false, false, false, false, false, false, false, false, false, false, false, false, false, false, false, false, false, false, false, false, false, false, false, false, false, false, false, false, false, false] rfl rfl (by kernel_rfl) (fun _ _ _ h => h) (Or.inl ⟨by rfl, ?_⟩) hHeld ?_ ?_
        rotate_left
        · rintro w' ⟨s0, s1, s2, s3, s4, s5, s6, s7, s8, s9⟩
          go_simp
          with_reducible rfl
        rotate_left
        · simp only [Act.put, List.setIfInBounds_toArray, List.set_cons_zero, List.set_cons_succ, i64_w, i32_w]
          rfl
        refine one_ (i := 9) (N := some 91) #[true, true, true, true, true, true, true, true, true, true, false, false, false, false, false, false, false, false, false, false, false, false, false, false, false, false, false, false, false, false, false, false, false, false, false, false, false, false, false, false, false, false] rfl rfl (by kernel_rfl) (by decide) (fun K hK => ?_)
        refine goes_ Try.func20 (by kernel_rfl) rfl #[.slice Ag n cg, .slice A4 n c4] (by rfl) rfl rfl (by simp only [List.map_toArray, List.map_cons, List.map_nil]; rfl) ?_
        with_reducible refine (hpc.out _ (Kd.C_drew HCg.out) (Kd.C_drew HC4.out)).mono ?_
        rintro e w11 ⟨rfl, hb⟩
        refine ⟨_, rfl, ?_⟩
        have HB11 := Aside0.mk ((Below.refl w10.heap.size w10).drew.trans (Below.mono hb.below (Below.refl w10.heap.size w10).drew.size))
        clear hb
        refine hK.out _ _ ⟨(hq.out _ HB11.out).1, (hq.out _ HB11.out).2.1, (hq.out _ HB11.out).2.2.1, (hq.out _ HB11.out).2.2.2.1, (hq.out _ HB11.out).2.2.2.2, (hqL.out _ HB11.out).1, (hqL.out _ HB11.out).2.1, (hqL.out _ HB11.out).2.2.1, (hqL.out _ HB11.out).2.2.2.1, (hqL.out _ HB11.out).2.2.2.2⟩ (fun hHeld => ?_)
        clear hK K
        refine norm_ (a' := ?_) ?_ ?_
        rotate_left
        · show Act.put _ (some 91) _ = _
          simp only [Act.put, List.setIfInBounds_toArray, List.set_cons_zero, List.set_cons_succ, i64_w, i32_w]
          rfl
        refine pure_ (i := 10) (N := some 92) (v := ?_) (a' := ?_) #[true, true, true, true, true, true, true, true, true, true, true, false, false, false, false, false, false, false, false, false, false, false, false, false, false, false, false, false, false, false, false, false, false, false, false, false, false, false, false, false, false, false] rfl rfl (by kernel_rfl) (fun _ _ _ h => h) (Or.inl ⟨by rfl, ?_⟩) ?_ ?_
        rotate_left
        · intro w'
          go_simp
          with_reducible rfl
        rotate_left
        · simp only [Act.put, List.setIfInBounds_toArray, List.set_cons_zero, List.set_cons_succ, i64_w, i32_w]
          rfl
        refine pure_ (i := 11) (N := some 93) (v := ?_) (a' := ?_) #[true, true, true, true, true, true, true, true, true, true, true, true, false, false, false, false, false, false, false, false, false, false, false, false, false, false, false, false, false, false, false, false, false, false, false, false, false, false, false, false, false, false] rfl rfl (by kernel_rfl) (fun _ _ _ h => h) (Or.inl ⟨by rfl, ?_⟩) ?_ ?_
        rotate_left
        · intro w'
          go_simp
          with_reducible rfl
        rotate_left
        · simp only [Act.put, List.setIfInBounds_toArray, List.set_cons_zero, List.set_cons_succ, i64_w, i32_w]
          rfl
        refine pure_ (i := 12) (N := some 94) (v := ?_) (a' := ?_) #[true, true, true, true, true, true, true, true, true, true, true, true, true, false, false, false, false, false, false, false, false, false, false, false, false, false, false, false, false, false, false, false, false, false, false, false, false, false, false, false, false, false] rfl rfl (by kernel_rfl) (fun _ _ _ h => h) (Or.inl ⟨by rfl, ?_⟩) ?_ ?_
        rotate_left
        · intro w'
          go_simp
          with_reducible rfl
        rotate_left
        · simp only [Act.put, List.setIfInBounds_toArray, List.set_cons_zero, List.set_cons_succ, i64_w, i32_w]
          rfl
        refine pure_ (i := 13) (N := some 95) (v := ?_) (a' := ?_) #[true, true, true, true, true, true, true, true, true, true, true, true, true, true, false, false, false, false, false, false, false, false, false, false, false, false, false, false, false, false, false, false, false, false, false, false, false, false, false, false, false, false] rfl rfl (by kernel_rfl) (fun _ _ _ h => h) (Or.inl ⟨by rfl, ?_⟩) ?_ ?_
        rotate_left
        · intro w'
          go_simp
          with_reducible rfl
        rotate_left
        · simp only [Act.put, List.setIfInBounds_toArray, List.set_cons_zero, List.set_cons_succ, i64_w, i32_w]
          rfl
        refine take_ (i := 14) (N := some 96) (v := ?_) (a' := ?_) #[true, true, true, true, true, true, true, true, true, true, true, true, true, true, true, false, false, false, false, false, false, false, false, false, false, false, false, false, false, false, false, false, false, false, false, false, false, false, false, false, false, false] rfl rfl (by kernel_rfl) (fun _ _ _ h => h) (Or.inl ⟨by rfl, ?_⟩) hHeld ?_ ?_
        rotate_left
        · rintro w' ⟨s0, s1, s2, s3, s4, s5, s6, s7, s8, s9⟩
          go_simp
          with_reducible rfl
        rotate_left
        · simp only [Act.put, List.setIfInBounds_toArray, List.set_cons_zero, List.set_cons_succ, i64_w, i32_w]
          rfl
        refine pure_ (i := 15) (N := some 97) (v := ?_) (a' := ?_) #[true, true, true, true, true, true, true, true, true, true, true, true, true, true, true, true, false, false, false, false, false, false, false, false, false, false, false, false, false, false, false, false, false, false, false, false, false, false, false, false, false, false] rfl rfl (by kernel_rfl) (fun _ _ _ h => h) (Or.inl ⟨by rfl, ?_⟩) ?_ ?_
        rotate_left
        · intro w'
          go_simp
          with_reducible rfl
        rotate_left
        · simp only [Act.put, List.setIfInBounds_toArray, List.set_cons_zero, List.set_cons_succ, i64_w, i32_w]
          rfl
        refine pure_ (i := 16) (N := some 98) (v := ?_) (a' := ?_) #[true, true, true, true, true, true, true, true, true, true, true, true, true, true, true, true, true, false, false, false, false, false, false, false, false, false, false, false, false, false, false, false, false, false, false, false, false, false, false, false, false, false] rfl rfl (by kernel_rfl) (fun _ _ _ h => h) (Or.inl ⟨by rfl, ?_⟩) ?_ ?_
        rotate_left
        · intro w'
          go_simp
          with_reducible rfl
        rotate_left
        · simp only [Act.put, List.setIfInBounds_toArray, List.set_cons_zero, List.set_cons_succ, i64_w, i32_w]
          rfl
        refine pure_ (i := 17) (N := some 99) (v := ?_) (a' := ?_) #[true, true, true, true, true, true, true, true, true, true, true, true, true, true, true, true, true, true, false, false, false, false, false, false, false, false, false, false, false, false, false, false, false, false, false, false, false, false, false, false, false, false] rfl rfl (by kernel_rfl) (fun _ _ _ h => h) (Or.inl ⟨by rfl, ?_⟩) ?_ ?_
        rotate_left
        · intro w'
          go_simp
          with_reducible rfl
        rotate_left
        · simp only [Act.put, List.setIfInBounds_toArray, List.set_cons_zero, List.set_cons_succ, i64_w, i32_w]
          rfl
        refine pure_ (i := 18) (N := some 100) (v := ?_) (a' := ?_) #[true, true, true, true, true, true, true, true, true, true, true, true, true, true, true, true, true, true, true, false, false, false, false, false, false, false, false, false, false, false, false, false, false, false, false, false, false, false, false, false, false, false] rfl rfl (by kernel_rfl) (fun _ _ _ h => h) (Or.inl ⟨by rfl, ?_⟩) ?_ ?_
        rotate_left
        · intro w'
          go_simp
          with_reducible rfl
        rotate_left
        · simp only [Act.put, List.setIfInBounds_toArray, List.set_cons_zero, List.set_cons_succ, i64_w, i32_w]
          rfl
        refine pure_ (i := 19) (N := some 101) (v := ?_) (a' := ?_) #[true, true, true, true, true, true, true, true, true, true, true, true, true, true, true, true, true, true, true, true, false, false, false, false, false, false, false, false, false, false, false, false, false, false, false, false, false, false, false, false, false, false] rfl rfl (by kernel_rfl) (fun _ _ _ h => h) (Or.inl ⟨by rfl, ?_⟩) ?_ ?_
        rotate_left
        · intro w'
          go_simp
          with_reducible rfl
        rotate_left
        · simp only [Act.put, List.setIfInBounds_toArray, List.set_cons_zero, List.set_cons_succ, i64_w, i32_w]
          rfl
        refine pure_ (i := 21) (N := some 103) (v := ?_) (a' := ?_) #[true, true, true, true, true, true, true, true, true, true, true, true, true, true, true, true, true, true, true, true, false, true, false, false, false, false, false, false, false, false, false, false, false, false, false, false, false, false, false, false, false, false] rfl rfl (by kernel_rfl) (fun _ _ _ h => h) (Or.inl ⟨by rfl, ?_⟩) ?_ ?_
        rotate_left
        · intro w'
          go_simp
          with_reducible rfl
        rotate_left
        · simp only [Act.put, List.setIfInBounds_toArray, List.set_cons_zero, List.set_cons_succ, i64_w, i32_w]
          rfl
        refine pure_ (i := 22) (N := some 104) (v := ?_) (a' := ?_) #[true, true, true, true, true, true, true, true, true, true, true, true, true, true, true, true, true, true, true, true, false, true, true, false, false, false, false, false, false, false, false, false, false, false, false, false, false, false, false, false, false, false] rfl rfl (by kernel_rfl) (fun _ _ _ h => h) (Or.inl ⟨by rfl, ?_⟩) ?_ ?_
        rotate_left
        · intro w'
          go_simp
          with_reducible rfl
        rotate_left
        · simp only [Act.put, List.setIfInBounds_toArray, List.set_cons_zero, List.set_cons_succ, i64_w, i32_w]
          rfl
        refine pure_ (i := 23) (N := some 105) (v := ?_) (a' := ?_) #[true, true, true, true, true, true, true, true, true, true, true, true, true, true, true, true, true, true, true, true, false, true, true, true, false, false, false, false, false, false, false, false, false, false, false, false, false, false, false, false, false, false] rfl rfl (by kernel_rfl) (fun _ _ _ h => h) (Or.inl ⟨by rfl, ?_⟩) ?_ ?_
        rotate_left
        · intro w'
          go_simp
          with_reducible rfl
        rotate_left
        · simp only [Act.put, List.setIfInBounds_toArray, List.set_cons_zero, List.set_cons_succ, i64_w, i32_w]
          rfl
        refine pure_ (i := 24) (N := some 106) (v := ?_) (a' := ?_) #[true, true, true, true, true, true, true, true, true, true, true, true, true, true, true, true, true, true, true, true, false, true, true, true, true, false, false, false, false, false, false, false, false, false, false, false, false, false, false, false, false, false] rfl rfl (by kernel_rfl) (fun _ _ _ h => h) (Or.inl ⟨by rfl, ?_⟩) ?_ ?_
        rotate_left
        · intro w'
          go_simp
          with_reducible rfl
        rotate_left
        · simp only [Act.put, List.setIfInBounds_toArray, List.set_cons_zero, List.set_cons_succ, i64_w, i32_w]
          rfl
        refine take_ (i := 20) (N := some 102) (v := ?_) (a' := ?_) #[true, true, true, true, true, true, true, true, true, true, true, true, true, true, true, true, true, true, true, true, true, true, true, true, true, false, false, false, false, false, false, false, false, false, false, false, false, false, false, false, false, false] rfl rfl (by kernel_rfl) (fun _ _ _ h => h) (Or.inl ⟨by rfl, ?_⟩) hHeld ?_ ?_
        rotate_left
        · rintro w' ⟨s0, s1, s2, s3, s4, s5, s6, s7, s8, s9⟩
          go_simp
          with_reducible rfl
        rotate_left
        · simp only [Act.put, List.setIfInBounds_toArray, List.set_cons_zero, List.set_cons_succ, i64_w, i32_w]
          rfl
        refine take_ (i := 25) (N := some 107) (v := ?_) (a' := ?_) #[true, true, true, true, true, true, true, true, true, true, true, true, true, true, true, true, true, true, true, true, true, true, true, true, true, true, false, false, false, false, false, false, false, false, false, false, false, false, false, false, false, false] rfl rfl (by kernel_rfl) (fun _ _ _ h => h) (Or.inl ⟨by rfl, ?_⟩) hHeld ?_ ?_
        rotate_left
        · rintro w' ⟨s0, s1, s2, s3, s4, s5, s6, s7, s8, s9⟩
          go_simp
          with_reducible rfl
        rotate_left
        · simp only [Act.put, List.setIfInBounds_toArray, List.set_cons_zero, List.set_cons_succ, i64_w, i32_w]
          rfl
        refine pure_ (i := 26) (N := some 108) (v := ?_) (a' := ?_) #[true, true, true, true, true, true, true, true, true, true, true, true, true, true, true, true, true, true, true, true, true, true, true, true, true, true, true, false, false, false, false, false, false, false, false, false, false, false, false, false, false, false] rfl rfl (by kernel_rfl) (fun _ _ _ h => h) (Or.inl ⟨by rfl, ?_⟩) ?_ ?_
        rotate_left
        · intro w'
          go_simp
          with_reducible rfl
        rotate_left
        · simp only [Act.put, List.setIfInBounds_toArray, List.set_cons_zero, List.set_cons_succ, i64_w, i32_w]
          rfl
        refine pure_ (i := 27) (N := some 109) (v := ?_) (a' := ?_) #[true, true, true, true, true, true, true, true, true, true, true, true, true, true, true, true, true, true, true, true, true, true, true, true, true, true, true, true, false, false, false, false, false, false, false, false, false, false, false, false, false, false] rfl rfl (by kernel_rfl) (fun _ _ _ h => h) (Or.inl ⟨by rfl, ?_⟩) ?_ ?_
        rotate_left
        · intro w'
          go_simp
          with_reducible rfl
        rotate_left
        · simp only [Act.put, List.setIfInBounds_toArray, List.set_cons_zero, List.set_cons_succ, i64_w, i32_w]
          rfl
        refine pure_ (i := 28) (N := some 110) (v := ?_) (a' := ?_) #[true, true, true, true, true, true, true, true, true, true, true, true, true, true, true, true, true, true, true, true, true, true, true, true, true, true, true, true, true, false, false, false, false, false, false, false, false, false, false, false, false, false] rfl rfl (by kernel_rfl) (fun _ _ _ h => h) (Or.inl ⟨by rfl, ?_⟩) ?_ ?_
        rotate_left
        · intro w'
          go_simp
          with_reducible rfl
        rotate_left
        · simp only [Act.put, List.setIfInBounds_toArray, List.set_cons_zero, List.set_cons_succ, i64_w, i32_w]
          rfl
        refine pure_ (i := 29) (N := some 111) (v := ?_) (a' := ?_) #[true, true, true, true, true, true, true, true, true, true, true, true, true, true, true, true, true, true, true, true, true, true, true, true, true, true, true, true, true, true, false, false, false, false, false, false, false, false, false, false, false, false] rfl rfl (by kernel_rfl) (fun _ _ _ h => h) (Or.inl ⟨by rfl, ?_⟩) ?_ ?_
        rotate_left
        · intro w'
          go_simp
          with_reducible rfl
        rotate_left
        · simp only [Act.put, List.setIfInBounds_toArray, List.set_cons_zero, List.set_cons_succ, i64_w, i32_w]
          rfl
        refine pure_ (i := 31) (N := some 113) (v := ?_) (a' := ?_) #[true, true, true, true, true, true, true, true, true, true, true, true, true, true, true, true, true, true, true, true, true, true, true, true, true, true, true, true, true, true, false, true, false, false, false, false, false, false, false, false, false, false] rfl rfl (by kernel_rfl) (fun _ _ _ h => h) (Or.inl ⟨by rfl, ?_⟩) ?_ ?_
        rotate_left
        · intro w'
          go_simp
          with_reducible rfl
        rotate_left
        · simp only [Act.put, List.setIfInBounds_toArray, List.set_cons_zero, List.set_cons_succ, i64_w, i32_w]
          rfl
        refine pure_ (i := 32) (N := some 114) (v := ?_) (a' := ?_) #[true, true, true, true, true, true, true, true, true, true, true, true, true, true, true, true, true, true, true, true, true, true, true, true, true, true, true, true, true, true, false, true, true, false, false, false, false, false, false, false, false, false] rfl rfl (by kernel_rfl) (fun _ _ _ h => h) (Or.inl ⟨by rfl, ?_⟩) ?_ ?_
        rotate_left
        · intro w'
          go_simp
          with_reducible rfl
        rotate_left
        · simp only [Act.put, List.setIfInBounds_toArray, List.set_cons_zero, List.set_cons_succ, i64_w, i32_w]
          rfl
        refine pure_ (i := 33) (N := some 115) (v := ?_) (a' := ?_) #[true, true, true, true, true, true, true, true, true, true, true, true, true, true, true, true, true, true, true, true, true, true, true, true, true, true, true, true, true, true, false, true, true, true, false, false, false, false, false, false, false, false] rfl rfl (by kernel_rfl) (fun _ _ _ h => h) (Or.inl ⟨by rfl, ?_⟩) ?_ ?_
        rotate_left
        · intro w'
          go_simp
          with_reducible rfl
        rotate_left
        · simp only [Act.put, List.setIfInBounds_toArray, List.set_cons_zero, List.set_cons_succ, i64_w, i32_w]
          rfl
        refine pure_ (i := 34) (N := some 116) (v := ?_) (a' := ?_) #[true, true, true, true, true, true, true, true, true, true, true, true, true, true, true, true, true, true, true, true, true, true, true, true, true, true, true, true, true, true, false, true, true, true, true, false, false, false, false, false, false, false] rfl rfl (by kernel_rfl) (fun _ _ _ h => h) (Or.inl ⟨by rfl, ?_⟩) ?_ ?_
        rotate_left
        · intro w'
          go_simp
          with_reducible rfl
        rotate_left
        · simp only [Act.put, List.setIfInBounds_toArray, List.set_cons_zero, List.set_cons_succ, i64_w, i32_w]
          rfl
        refine take_ (i := 30) (N := some 112) (v := ?_) (a' := ?_) #[true, true, true, true, true, true, true, true, true, true, true, true, true, true, true, true, true, true, true, true, true, true, true, true, true, true, true, true, true, true, true, true, true, true, true, false, false, false, false, false, false, false] rfl rfl (by kernel_rfl) (fun _ _ _ h => h) (Or.inl ⟨by rfl, ?_⟩) hHeld ?_ ?_
        rotate_left
        · rintro w' ⟨s0, s1, s2, s3, s4, s5, s6, s7, s8, s9⟩
          go_simp
          with_reducible rfl
        rotate_left
        · simp only [Act.put, List.setIfInBounds_toArray, List.set_cons_zero, List.set_cons_succ, i64_w, i32_w]
          rfl
        refine take_ (i := 35) (N := some 117) (v := ?_) (a' := ?_) #[true, true, true, true, true, true, true, true, true, true, true, true, true, true, true, true, true, true, true, true, true, true, true, true, true, true, true, true, true, true, true, true, true, true, true, true, false, false, false, false, false, false] rfl rfl (by kernel_rfl) (fun _ _ _ h => h) (Or.inl ⟨by rfl, ?_⟩) hHeld ?_ ?_
        rotate_left
        · rintro w' ⟨s0, s1, s2, s3, s4, s5, s6, s7, s8, s9⟩
          go_simp
          with_reducible rfl
        rotate_left
        · simp only [Act.put, List.setIfInBounds_toArray, List.set_cons_zero, List.set_cons_succ, i64_w, i32_w]
          rfl
        refine pure_ (i := 36) (N := some 118) (v := ?_) (a' := ?_) #[true, true, true, true, true, true, true, true, true, true, true, true, true, true, true, true, true, true, true, true, true, true, true, true, true, true, true, true, true, true, true, true, true, true, true, true, true, false, false, false, false, false] rfl rfl (by kernel_rfl) (fun _ _ _ h => h) (Or.inl ⟨by rfl, ?_⟩) ?_ ?_
        rotate_left
        · intro w'
          go_simp
          with_reducible rfl
        rotate_left
        · simp only [Act.put, List.setIfInBounds_toArray, List.set_cons_zero, List.set_cons_succ, i64_w, i32_w]
          rfl
        refine pure_ (i := 37) (N := some 119) (v := ?_) (a' := ?_) #[true, true, true, true, true, true, true, true, true, true, true, true, true, true, true, true, true, true, true, true, true, true, true, true, true, true, true, true, true, true, true, true, true, true, true, true, true, true, false, false, false, false] rfl rfl (by kernel_rfl) (fun _ _ _ h => h) (Or.inl ⟨by rfl, ?_⟩) ?_ ?_
        rotate_left
        · intro w'
          go_simp
          with_reducible rfl
        rotate_left
        · simp only [Act.put, List.setIfInBounds_toArray, List.set_cons_zero, List.set_cons_succ, i64_w, i32_w]
          rfl
        refine pure_ (i := 38) (N := some 120) (v := ?_) (a' := ?_) #[true, true, true, true, true, true, true, true, true, true, true, true, true, true, true, true, true, true, true, true, true, true, true, true, true, true, true, true, true, true, true, true, true, true, true, true, true, true, true, false, false, false] rfl rfl (by kernel_rfl) (fun _ _ _ h => h) (Or.inl ⟨by rfl, ?_⟩) ?_ ?_
        rotate_left
        · intro w'
          go_simp
          with_reducible rfl
        rotate_left
        · simp only [Act.put, List.setIfInBounds_toArray, List.set_cons_zero, List.set_cons_succ, i64_w, i32_w]
          rfl
        refine one_ (i := 39) (N := some 121) #[true, true, true, true, true, true, true, true, true, true, true, true, true, true, true, true, true, true, true, true, true, true, true, true, true, true, true, true, true, true, true, true, true, true, true, true, true, true, true, true, false, false] rfl rfl (by kernel_rfl) (by decide) (fun K hK => ?_)
        refine goes_ Try.func13 (by kernel_rfl) rfl #[] (by rfl) rfl rfl (by simp only [List.map_toArray, List.map_cons, List.map_nil]) ?_
        with_reducible refine (alive_calls _).mono ?_
        rintro e w12 ⟨rfl, hb⟩
        refine ⟨_, rfl, ?_⟩
        have HB12 := Aside0.mk (below_step HB11.out hb)
        clear hb
        refine hK.out _ _ ⟨(hq.out _ HB12.out).1, (hq.out _ HB12.out).2.1, (hq.out _ HB12.out).2.2.1, (hq.out _ HB12.out).2.2.2.1, (hq.out _ HB12.out).2.2.2.2, (hqL.out _ HB12.out).1, (hqL.out _ HB12.out).2.1, (hqL.out _ HB12.out).2.2.1, (hqL.out _ HB12.out).2.2.2.1, (hqL.out _ HB12.out).2.2.2.2⟩ (fun hHeld => ?_)
        clear hK K
        refine norm_ (a' := ?_) ?_ ?_
        rotate_left
        · show Act.put _ (some 121) _ = _
          simp only [Act.put, List.setIfInBounds_toArray, List.set_cons_zero, List.set_cons_succ, i64_w, i32_w]
          rfl
        refine pure_ (i := 40) (N := some 122) (v := ?_) (a' := ?_) #[true, true, true, true, true, true, true, true, true, true, true, true, true, true, true, true, true, true, true, true, true, true, true, true, true, true, true, true, true, true, true, true, true, true, true, true, true, true, true, true, true, false] rfl rfl (by kernel_rfl) (fun _ _ _ h => h) (Or.inl ⟨by rfl, ?_⟩) ?_ ?_
        rotate_left
        · intro w'
          go_simp
          with_reducible rfl
        rotate_left
        · simp only [Act.put, List.setIfInBounds_toArray, List.set_cons_zero, List.set_cons_succ, i64_w, i32_w]
          rfl
        refine pure_ (i := 41) (N := some 123) (v := ?_) (a' := ?_) #[true, true, true, true, true, true, true, true, true, true, true, true, true, true, true, true, true, true, true, true, true, true, true, true, true, true, true, true, true, true, true, true, true, true, true, true, true, true, true, true, true, true] rfl rfl (by kernel_rfl) (fun _ _ _ h => h) (Or.inl ⟨by rfl, ?_⟩) ?_ ?_
        rotate_left
        · intro w'
          go_simp
          with_reducible rfl
        rotate_left
        · simp only [Act.put, List.setIfInBounds_toArray, List.set_cons_zero, List.set_cons_succ, i64_w, i32_w]
          rfl
        refine done_ (by kernel_rfl) ?_
        have hB12 := below_step hB2 (below_step hB10 HB12.out)
        have hC2s := Aside0.mk (Kd.C_below hC2.out (below_step hB10 HB12.out))
        have hC5s := Aside0.mk (Kd.C_below hC5.out (below_step hb10 HB12.out))
        have hb1s := Aside0.mk (below_step hb2 (below_step hB10 HB12.out))
        replace hB12 := Aside0.mk hB12
        clear hHeld HB11 HB12 hpc hsame HC4 HCg hq hqL hC5 hb10 hB10 hBr hw3
        go_wp2
        go_loopw [126] (fun vi ws => ∃ j : Nat, j ≤ l.length ∧ vi = .int .i64 (j : Int) ∧ Below w12.heap.size w12 ws) (fun vi _ => l.length - (intOf vi).toNat)
        case atStart => exact ⟨0, by omega, rfl, Below.refl _ _⟩
        case round =>
          obtain ⟨j, hj, rfl, hBs⟩ := hrel
          by_cases hltj : (j : Int) < (l.length : Int)
          · obtain ⟨ad5, E4, e4, eA5, p0, p1, p2, p3, p4, he4, hE4⟩ := kr_atC (w0 := w1) (Kd.C_below hC5s.out hBs) j (by omega)
            subst eA5
            have hyj := rd_set l i { x with f3 := x.f3.drop (n + 2) } j (by omega)
            rw [show l.set i { x with f3 := x.f3.drop (n + 2) } = lt_ l i x (n + 2) from rfl] at hyj
            rw [hyj] at p0 p1 p2 p3 p4 he4 hE4
            clear hyj
            obtain ⟨w13, hw13⟩ : ∃ w13, wr.alloc (.cells #[.int .u64 0, .string ⟨#[]⟩, .int .u64 0, .string ⟨#[]⟩, .slice none 0 0] 29 (0, 0)) = w13 := ⟨_, rfl⟩
            have hb13 : Below wr.heap.size wr w13 := by rw [← hw13]; exact below_alloc (Below.refl _ _) _
            have hs13 : w13.heap.size = wr.heap.size + 1 := by rw [← hw13]; simp
            have hK13 : w13.heap[wr.heap.size]? = some (.cells #[.int .u64 0, .string ⟨#[]⟩, .int .u64 0, .string ⟨#[]⟩, .slice none 0 0] 29 (0, 0)) := by rw [← hw13]; exact heap_alloc_new _ _
            have hjn : (j : Int) < l.length := hltj
            by_cases hji : i = j
            · rw [if_pos hji] at p0 p1 p2 p3 p4 he4 hE4
              generalize ({ x with f3 := x.f3.drop (n + 2) } : S29) = s at p0 p1 p2 p3 p4 he4 hE4
              subst hji
              go_wp2_with ((with_reducible refine gate_store (t := 29) (p := 18) rfl ?_); go_loud (refine wpList_storeBox rfl rfl 29 (.tmp 18) (.tmp 130) rfl (sv s E4 e4) [.int .u64 s.f0, .string s.f1, .int .u64 s.f2.f0, .string s.f2.f1, .slice E4 s.f3.length e4] rfl rfl rfl (by kernel_rfl) (by simp [Value.oneCell']) hK13 rfl ?_); intro w14 hK14 hg14 hs14; have hb14 := Aside0.mk (pw_below_grown hb13 _ hb13.size hg14 (fun k hk => by cases hk; exact Nat.le_refl _)); clear hw13 hb13 hK13 hg14 p0 p1 p2 p3 p4)
              refine start_ (n := 12) (S := fun w' => True) (ds := []) #[false, false, false, false, false, false, false, false, false, false, false, false] (by kernel_rfl) rfl rfl trivial (fun hHeld => ?_)
              refine pure_ (i := 0) (N := some 131) (v := ?_) (a' := ?_) #[true, false, false, false, false, false, false, false, false, false, false, false] rfl rfl (by kernel_rfl) (fun _ _ _ h => h) (Or.inl ⟨by rfl, ?_⟩) ?_ ?_
              rotate_left
              · intro w'
                go_simp
                with_reducible rfl
              rotate_left
              · simp only [Act.put, List.setIfInBounds_toArray, List.set_cons_zero, List.set_cons_succ, i64_w, i32_w]
                rfl
              refine pure_ (i := 1) (N := some 132) (v := ?_) (a' := ?_) #[true, true, false, false, false, false, false, false, false, false, false, false] rfl rfl (by kernel_rfl) (fun _ _ _ h => h) (Or.inl ⟨by rfl, ?_⟩) ?_ ?_
              rotate_left
              · intro w'
                go_simp
                with_reducible rfl
              rotate_left
              · simp only [Act.put, List.setIfInBounds_toArray, List.set_cons_zero, List.set_cons_succ, i64_w, i32_w]
                rfl
              refine pure_ (i := 2) (N := some 133) (v := ?_) (a' := ?_) #[true, true, true, false, false, false, false, false, false, false, false, false] rfl rfl (by kernel_rfl) (fun _ _ _ h => h) (Or.inl ⟨by rfl, ?_⟩) ?_ ?_
              rotate_left
              · intro w'
                go_simp
                with_reducible rfl
              rotate_left
              · simp only [Act.put, List.setIfInBounds_toArray, List.set_cons_zero, List.set_cons_succ, i64_w, i32_w]
                rfl
              refine pure_ (i := 3) (N := some 134) (v := ?_) (a' := ?_) #[true, true, true, true, false, false, false, false, false, false, false, false] rfl rfl (by kernel_rfl) (fun _ _ _ h => h) (Or.inl ⟨by rfl, ?_⟩) ?_ ?_
              rotate_left
              · intro w'
                go_simp
                with_reducible rfl
              rotate_left
              · simp only [Act.put, List.setIfInBounds_toArray, List.set_cons_zero, List.set_cons_succ, i64_w, i32_w]
                rfl
              refine pure_ (i := 4) (N := some 135) (v := undef) (a' := ?_) #[true, true, true, true, true, false, false, false, false, false, false, false] rfl rfl (by kernel_rfl) (fun _ _ _ h => h) (Or.inr ⟨by rfl, rfl⟩) ?_ ?_
              rotate_left
              · simp only [Act.put, List.setIfInBounds_toArray, List.set_cons_zero, List.set_cons_succ, i64_w, i32_w]
                rfl
              refine pure_ (i := 5) (N := some 136) (v := undef) (a' := ?_) #[true, true, true, true, true, true, false, false, false, false, false, false] rfl rfl (by kernel_rfl) (fun _ _ _ h => h) (Or.inr ⟨by rfl, rfl⟩) ?_ ?_
              rotate_left
              · simp only [Act.put, List.setIfInBounds_toArray, List.set_cons_zero, List.set_cons_succ, i64_w, i32_w]
                rfl
              refine pure_ (i := 6) (N := some 137) (v := undef) (a' := ?_) #[true, true, true, true, true, true, true, false, false, false, false, false] rfl rfl (by kernel_rfl) (fun _ _ _ h => h) (Or.inr ⟨by rfl, rfl⟩) ?_ ?_
              rotate_left
              · simp only [Act.put, List.setIfInBounds_toArray, List.set_cons_zero, List.set_cons_succ, i64_w, i32_w]
                rfl
              refine pure_ (i := 7) (N := some 138) (v := undef) (a' := ?_) #[true, true, true, true, true, true, true, true, false, false, false, false] rfl rfl (by kernel_rfl) (fun _ _ _ h => h) (Or.inr ⟨by rfl, rfl⟩) ?_ ?_
              rotate_left
              · simp only [Act.put, List.setIfInBounds_toArray, List.set_cons_zero, List.set_cons_succ, i64_w, i32_w]
                rfl
              refine pure_ (i := 8) (N := some 139) (v := undef) (a' := ?_) #[true, true, true, true, true, true, true, true, true, false, false, false] rfl rfl (by kernel_rfl) (fun _ _ _ h => h) (Or.inr ⟨by rfl, rfl⟩) ?_ ?_
              rotate_left
              · simp only [Act.put, List.setIfInBounds_toArray, List.set_cons_zero, List.set_cons_succ, i64_w, i32_w]
                rfl
              refine pure_ (i := 9) (N := some 140) (v := undef) (a' := ?_) #[true, true, true, true, true, true, true, true, true, true, false, false] rfl rfl (by kernel_rfl) (fun _ _ _ h => h) (Or.inr ⟨by rfl, rfl⟩) ?_ ?_
              rotate_left
              · simp only [Act.put, List.setIfInBounds_toArray, List.set_cons_zero, List.set_cons_succ, i64_w, i32_w]
                rfl
              refine pure_ (i := 10) (N := some 141) (v := undef) (a' := ?_) #[true, true, true, true, true, true, true, true, true, true, true, false] rfl rfl (by kernel_rfl) (fun _ _ _ h => h) (Or.inr ⟨by rfl, rfl⟩) ?_ ?_
              rotate_left
              · simp only [Act.put, List.setIfInBounds_toArray, List.set_cons_zero, List.set_cons_succ, i64_w, i32_w]
                rfl
              refine pure_ (i := 11) (N := some 142) (v := ?_) (a' := ?_) #[true, true, true, true, true, true, true, true, true, true, true, true] rfl rfl (by kernel_rfl) (fun _ _ _ h => h) (Or.inl ⟨by rfl, ?_⟩) ?_ ?_
              rotate_left
              · intro w'
                go_simp
                with_reducible rfl
              rotate_left
              · simp only [Act.put, List.setIfInBounds_toArray, List.set_cons_zero, List.set_cons_succ, i64_w, i32_w]
                rfl
              refine done_ (by kernel_rfl) ?_
              have hBe := Aside0.mk (below_step hBs (below_drew hb14.out))
              clear hBs
              go_wp2
              go_roundw
              case rel => exact ⟨i + 1, by omega, by go_num, hBe.out⟩
              case measure => simp [intOf]; omega
            · rw [if_neg hji] at p0 p1 p2 p3 p4 he4 hE4
              obtain ⟨ad', G4, o4, eA', q0, q1, q2, q3, q4, ho4, hG4⟩ := at_T29 (Kd.C_below hC2s.out hBs) (j : Int) (by omega) (by omega)
              cases eA'
              rw [Int.toNat_natCast] at q0 q1 q2 q3 q4
              have hs22 : (rd_T29 l (j : Int)).f3.length ≤ 22 := hl22.out _ (rd29_mem l j (by omega))
              generalize rd_T29 l (j : Int) = s at p0 p1 p2 p3 p4 he4 hE4 q0 q1 q2 q3 q4 ho4 hG4 hs22
              have hbji : ((j : Int) == (i : Int)) = false := beq_eq_false_iff_ne.2 (by omega)
              have hbjn : (j == i) = false := beq_eq_false_iff_ne.2 (fun e => hji e.symm)
              have hnji : ¬ ((j : Int) = (i : Int)) := by omega
              have hnjn : ¬ (j = i) := fun e => hji e.symm
              have hbne : ((j : Int) != (i : Int)) = true := bne_iff_ne.2 hnji
              have hadl : (ad.add (j * 5)).block < wr.heap.size := block_lt_of_cell q0
              go_wp2_with ((with_reducible refine gate_store (t := 29) (p := 18) rfl ?_); go_loud (refine wpList_storeBox rfl rfl 29 (.tmp 18) (.tmp 130) rfl (sv s E4 e4) [.int .u64 s.f0, .string s.f1, .int .u64 s.f2.f0, .string s.f2.f1, .slice E4 s.f3.length e4] rfl rfl rfl (by kernel_rfl) (by simp [Value.oneCell']) hK13 rfl ?_); intro w14 hK14 hg14 hs14; have hb14 := Aside0.mk (pw_below_grown hb13 _ hb13.size hg14 (fun k hk => by cases hk; exact Nat.le_refl _)); clear hw13 hb13 hK13 hg14 p0 p1 p2 p3 p4)
              have hqB : Hid (∀ W, Below w14.heap.size w14 W → W.cell? ⟨wr.heap.size, 0, none⟩ = some (.int .u64 s.f0) ∧ W.cell? ⟨wr.heap.size, 1, none⟩ = some (.string s.f1) ∧ W.cell? ⟨wr.heap.size, 2, none⟩ = some (.int .u64 s.f2.f0) ∧ W.cell? ⟨wr.heap.size, 3, none⟩ = some (.string s.f2.f1) ∧ W.cell? ⟨wr.heap.size, 4, none⟩ = some (.slice E4 s.f3.length e4)) := Lib.hid fun W hW => box5 ((hW.block _ (blk_lt hK14)).trans hK14)
              have hqJ : Hid (∀ W, Below w14.heap.size w14 W → W.cell? (ad.add (j * 5)) = some (.int .u64 s.f0) ∧ W.cell? ⟨(ad.add (j * 5)).block, (ad.add (j * 5)).off + 1, none⟩ = some (.string s.f1) ∧ W.cell? ⟨(ad.add (j * 5)).block, (ad.add (j * 5)).off + 2, none⟩ = some (.int .u64 s.f2.f0) ∧ W.cell? ⟨(ad.add (j * 5)).block, (ad.add (j * 5)).off + 3, none⟩ = some (.string s.f2.f1) ∧ W.cell? ⟨(ad.add (j * 5)).block, (ad.add (j * 5)).off + 4, none⟩ = some (.slice G4 s.f3.length o4)) := Lib.hid fun W hW => by
                have hBW := below_step hb14.out hW
                exact ⟨(Below.cell (p := (ad.add (j * 5))) hBW hadl).trans q0, (Below.cell (p := ⟨(ad.add (j * 5)).block, (ad.add (j * 5)).off + 1, none⟩) hBW hadl).trans q1, (Below.cell (p := ⟨(ad.add (j * 5)).block, (ad.add (j * 5)).off + 2, none⟩) hBW hadl).trans q2, (Below.cell (p := ⟨(ad.add (j * 5)).block, (ad.add (j * 5)).off + 3, none⟩) hBW hadl).trans q3, (Below.cell (p := ⟨(ad.add (j * 5)).block, (ad.add (j * 5)).off + 4, none⟩) hBW hadl).trans q4⟩
              have hone : Hid (∀ W, Below w14.heap.size w14 W → Calls Try.prog 14 #[.agg #[.int .u64 s.f0, .string s.f1, .int .u64 s.f2.f0, .string s.f2.f1, .slice E4 s.f3.length e4], .agg #[.int .u64 s.f0, .string s.f1, .int .u64 s.f2.f0, .string s.f2.f1, .slice G4 s.f3.length o4]] W fun e w' => e = .returned (.bool true) ∧ Below W.heap.size W w') := Lib.hid fun W hW =>
                demurralref15_One.calls 2000 s.f0 s.f1 s.f2.f0 s.f2.f1 E4 e4 s.f3 s.f0 s.f1 s.f2.f0 s.f2.f1 G4 o4 s.f3 true W (Kd.C_below hE4 (below_step hb1s.out (below_step hBs (below_step hb14.out hW)))) he4 (Kd.C_below hG4 (below_step hb14.out hW)) ho4 (by rw [← oneB_refl s]; exact one_f s s (by omega) 2000 (by omega))
              clear q0 q1 q2 q3 q4 hK14
              refine start_ (n := 12) (S := fun w' => w'.cell? ⟨wr.heap.size, 0, none⟩ = some (.int .u64 s.f0) ∧ w'.cell? ⟨wr.heap.size, 1, none⟩ = some (.string s.f1) ∧ w'.cell? ⟨wr.heap.size, 2, none⟩ = some (.int .u64 s.f2.f0) ∧ w'.cell? ⟨wr.heap.size, 3, none⟩ = some (.string s.f2.f1) ∧ w'.cell? ⟨wr.heap.size, 4, none⟩ = some (.slice E4 s.f3.length e4) ∧ w'.cell? (ad.add (j * 5)) = some (.int .u64 s.f0) ∧ w'.cell? ⟨(ad.add (j * 5)).block, (ad.add (j * 5)).off + 1, none⟩ = some (.string s.f1) ∧ w'.cell? ⟨(ad.add (j * 5)).block, (ad.add (j * 5)).off + 2, none⟩ = some (.int .u64 s.f2.f0) ∧ w'.cell? ⟨(ad.add (j * 5)).block, (ad.add (j * 5)).off + 3, none⟩ = some (.string s.f2.f1) ∧ w'.cell? ⟨(ad.add (j * 5)).block, (ad.add (j * 5)).off + 4, none⟩ = some (.slice G4 s.f3.length o4)) (ds := []) #[false, false, false, false, false, false, false, false, false, false, false, false] (by kernel_rfl) rfl rfl ⟨(hqB.out _ (Below.refl w14.heap.size w14).drew).1, (hqB.out _ (Below.refl w14.heap.size w14).drew).2.1, (hqB.out _ (Below.refl w14.heap.size w14).drew).2.2.1, (hqB.out _ (Below.refl w14.heap.size w14).drew).2.2.2.1, (hqB.out _ (Below.refl w14.heap.size w14).drew).2.2.2.2, (hqJ.out _ (Below.refl w14.heap.size w14).drew).1, (hqJ.out _ (Below.refl w14.heap.size w14).drew).2.1, (hqJ.out _ (Below.refl w14.heap.size w14).drew).2.2.1, (hqJ.out _ (Below.refl w14.heap.size w14).drew).2.2.2.1, (hqJ.out _ (Below.refl w14.heap.size w14).drew).2.2.2.2⟩ (fun hHeld => ?_)
              refine pure_ (i := 0) (N := some 131) (v := ?_) (a' := ?_) #[true, false, false, false, false, false, false, false, false, false, false, false] rfl rfl (by kernel_rfl) (fun _ _ _ h => h) (Or.inl ⟨by rfl, ?_⟩) ?_ ?_
              rotate_left
              · intro w'
                go_simp
                with_reducible rfl
              rotate_left
              · simp only [Act.put, List.setIfInBounds_toArray, List.set_cons_zero, List.set_cons_succ, i64_w, i32_w]
                rfl
              refine pure_ (i := 1) (N := some 132) (v := ?_) (a' := ?_) #[true, true, false, false, false, false, false, false, false, false, false, false] rfl rfl (by kernel_rfl) (fun _ _ _ h => h) (Or.inl ⟨by rfl, ?_⟩) ?_ ?_
              rotate_left
              · intro w'
                go_simp
                with_reducible rfl
              rotate_left
              · simp only [Act.put, List.setIfInBounds_toArray, List.set_cons_zero, List.set_cons_succ, i64_w, i32_w]
                rfl
              refine pure_ (i := 2) (N := some 133) (v := ?_) (a' := ?_) #[true, true, true, false, false, false, false, false, false, false, false, false] rfl rfl (by kernel_rfl) (fun _ _ _ h => h) (Or.inl ⟨by rfl, ?_⟩) ?_ ?_
              rotate_left
              · intro w'
                go_simp
                with_reducible rfl
              rotate_left
              · simp only [Act.put, List.setIfInBounds_toArray, List.set_cons_zero, List.set_cons_succ, i64_w, i32_w]
                rfl
              refine pure_ (i := 3) (N := some 134) (v := ?_) (a' := ?_) #[true, true, true, true, false, false, false, false, false, false, false, false] rfl rfl (by kernel_rfl) (fun _ _ _ h => h) (Or.inl ⟨by rfl, ?_⟩) ?_ ?_
              rotate_left
              · intro w'
                go_simp
                with_reducible rfl
              rotate_left
              · simp only [Act.put, List.setIfInBounds_toArray, List.set_cons_zero, List.set_cons_succ, i64_w, i32_w]
                rfl
              refine pure_ (i := 5) (N := some 136) (v := ?_) (a' := ?_) #[true, true, true, true, false, true, false, false, false, false, false, false] rfl rfl (by kernel_rfl) (fun _ _ _ h => h) (Or.inl ⟨by rfl, ?_⟩) ?_ ?_
              rotate_left
              · intro w'
                go_simp
                with_reducible rfl
              rotate_left
              · simp only [Act.put, List.setIfInBounds_toArray, List.set_cons_zero, List.set_cons_succ, i64_w, i32_w]
                rfl
              refine pure_ (i := 6) (N := some 137) (v := ?_) (a' := ?_) #[true, true, true, true, false, true, true, false, false, false, false, false] rfl rfl (by kernel_rfl) (fun _ _ _ h => h) (Or.inl ⟨by rfl, ?_⟩) ?_ ?_
              rotate_left
              · intro w'
                go_simp
                with_reducible rfl
              rotate_left
              · simp only [Act.put, List.setIfInBounds_toArray, List.set_cons_zero, List.set_cons_succ, i64_w, i32_w]
                rfl
              refine pure_ (i := 7) (N := some 138) (v := ?_) (a' := ?_) #[true, true, true, true, false, true, true, true, false, false, false, false] rfl rfl (by kernel_rfl) (fun _ _ _ h => h) (Or.inl ⟨by rfl, ?_⟩) ?_ ?_
              rotate_left
              · intro w'
                go_simp
                with_reducible rfl
              rotate_left
              · simp only [Act.put, List.setIfInBounds_toArray, List.set_cons_zero, List.set_cons_succ, i64_w, i32_w]
                rfl
              refine take_ (i := 4) (N := some 135) (v := ?_) (a' := ?_) #[true, true, true, true, true, true, true, true, false, false, false, false] rfl rfl (by kernel_rfl) (fun _ _ _ h => h) (Or.inl ⟨by rfl, ?_⟩) hHeld ?_ ?_
              rotate_left
              · rintro w' ⟨s0, s1, s2, s3, s4, s5, s6, s7, s8, s9⟩
                go_simp
                with_reducible rfl
              rotate_left
              · simp only [Act.put, List.setIfInBounds_toArray, List.set_cons_zero, List.set_cons_succ, i64_w, i32_w]
                rfl
              refine take_ (i := 8) (N := some 139) (v := ?_) (a' := ?_) #[true, true, true, true, true, true, true, true, true, false, false, false] rfl rfl (by kernel_rfl) (fun _ _ _ h => h) (Or.inl ⟨by rfl, ?_⟩) hHeld ?_ ?_
              rotate_left
              · rintro w' ⟨s0, s1, s2, s3, s4, s5, s6, s7, s8, s9⟩
                go_simp
                with_reducible rfl
              rotate_left
              · simp only [Act.put, List.setIfInBounds_toArray, List.set_cons_zero, List.set_cons_succ, i64_w, i32_w]
                rfl
              refine one_ (i := 9) (N := some 140) #[true, true, true, true, true, true, true, true, true, true, false, false] rfl rfl (by kernel_rfl) (by decide) (fun K hK => ?_)
              refine goes_ Try.func14 (by kernel_rfl) rfl #[.agg #[.int .u64 s.f0, .string s.f1, .int .u64 s.f2.f0, .string s.f2.f1, .slice E4 s.f3.length e4], .agg #[.int .u64 s.f0, .string s.f1, .int .u64 s.f2.f0, .string s.f2.f1, .slice G4 s.f3.length o4]] (by rfl) rfl rfl (by simp only [List.map_toArray, List.map_cons, List.map_nil]; rfl) ?_
              with_reducible refine (hone.out _ (Below.refl w14.heap.size w14).drew).mono ?_
              rintro e w15 ⟨rfl, hb⟩
              refine ⟨_, rfl, ?_⟩
              have HB15 := Aside0.mk (below_step (Below.refl w14.heap.size w14).drew hb)
              clear hb
              refine hK.out _ _ ⟨(hqB.out _ HB15.out).1, (hqB.out _ HB15.out).2.1, (hqB.out _ HB15.out).2.2.1, (hqB.out _ HB15.out).2.2.2.1, (hqB.out _ HB15.out).2.2.2.2, (hqJ.out _ HB15.out).1, (hqJ.out _ HB15.out).2.1, (hqJ.out _ HB15.out).2.2.1, (hqJ.out _ HB15.out).2.2.2.1, (hqJ.out _ HB15.out).2.2.2.2⟩ (fun hHeld => ?_)
              clear hK K
              refine norm_ (a' := ?_) ?_ ?_
              rotate_left
              · show Act.put _ (some 140) _ = _
                simp only [Act.put, List.setIfInBounds_toArray, List.set_cons_zero, List.set_cons_succ, i64_w, i32_w]
                rfl
              refine pure_ (i := 10) (N := some 141) (v := ?_) (a' := ?_) #[true, true, true, true, true, true, true, true, true, true, true, false] rfl rfl (by kernel_rfl) (fun _ _ _ h => h) (Or.inl ⟨by rfl, ?_⟩) ?_ ?_
              rotate_left
              · intro w'
                go_simp
                with_reducible rfl
              rotate_left
              · simp only [Act.put, List.setIfInBounds_toArray, List.set_cons_zero, List.set_cons_succ, i64_w, i32_w]
                rfl
              refine pure_ (i := 11) (N := some 142) (v := ?_) (a' := ?_) #[true, true, true, true, true, true, true, true, true, true, true, true] rfl rfl (by kernel_rfl) (fun _ _ _ h => h) (Or.inl ⟨by rfl, ?_⟩) ?_ ?_
              rotate_left
              · intro w'
                go_simp
                with_reducible rfl
              rotate_left
              · simp only [Act.put, List.setIfInBounds_toArray, List.set_cons_zero, List.set_cons_succ, i64_w, i32_w]
                rfl
              refine done_ (by kernel_rfl) ?_
              have hBe := Aside0.mk (below_step hBs (below_step hb14.out HB15.out))
              clear hBs hHeld
              go_wp2
              go_roundw
              case rel => exact ⟨j + 1, by omega, by go_num, hBe.out⟩
              case measure => simp [intOf]; omega
          · obtain rfl : j = l.length := by omega
            go_wp2
            go_ret
            exact ⟨rfl, below_step hB12.out hBs⟩
end Go.Proofs.Ytkomcddnfjbifaa.Q
