/- PrekeysMore: any shelves with more one-time points of any user are as the document says, or refused.
   Conditions: the list is read as shelves, the points as such. -/
import Derived.Test.YtkomcddnfjbifaaHMore
import Derived.Test.YtkomcddnfjbifaaHSmall
import Derived.Test.YtkomcddnfjbifaaQx126
namespace Go.Proofs.Ytkomcddnfjbifaa.Q
open Go.RowKit Go.Proofs.YtkomcddnfjbifaaW.PrintWords Go.Proofs.YtkomcddnfjbifaaW.PrintLast Go.Proofs.YtkomcddnfjbifaaW.PrintMore
set_option linter.unusedVariables false
set_option linter.unusedSimpArgs false

theorem all_f (x : S29) (once : List S26) (h1 : x.f3.length ≤ 1000) (h2 : once.length ≤ 1000) : demurralref15_All.f x.f0 x.f1 x.f2.f0 x.f2.f1 x.f3 once = some (x.f3 ++ once) := by
  unfold demurralref15_All.f
  rw [Option.bind_some, if_pos (by rw [List.length_nil]; omega), Option.bind_some, List.nil_append, if_pos (by omega)]
theorem apart_twice {l : List S26} (h : twiceB l = false) : apartB l = (List.range l.length).all fun j => pointB (rd_T26 l (j : Int)) := by
  rw [apartB_parts, h, Bool.not_false, Bool.and_true]
set_option maxHeartbeats 4000000 in
set_option maxRecDepth 100000 in
theorem more_walk (A0 : Option Addr) (c0 : Nat) (l0 : List S29) (u : Int) (Ao : Option Addr) (co : Nat) (once0 : List S26) (w : World) (hr0 : Kd.C k29 w A0 l0.length l0) (hc0 : l0.length ≤ c0) (hr2 : Kd.C k26 w Ao once0.length once0) (hc2 : once0.length ≤ co) (g0 : good22 l0) (g1 : (Lit.int .u64 u).wf = true) (g2 : good27 once0) :
    Calls Try.prog 7 #[.slice A0 l0.length c0, .int .u64 u, .slice Ao once0.length co] w fun e w' => e = .returned (.bool true) ∧ Below w.heap.size w w' := by
  have hsm := small_few l0 g0
  have hfw := Aside0.mk (few_own A0 c0 l0 w hr0 hc0)
  obtain ⟨l, hl⟩ : ∃ l, fewP l0 = l := ⟨_, rfl⟩
  rw [hl] at hsm hfw
  clear hr0 g0 hl hc0
  obtain ⟨hl10, hl22, hwf, hpos⟩ := hsm
  obtain ⟨k, hk⟩ : ∃ k, min once0.length 22 = k := ⟨_, rfl⟩
  obtain ⟨once, ho⟩ : ∃ once, once0.take 22 = once := ⟨_, rfl⟩
  have hok : once.length = k := by rw [← ho, List.length_take]; omega
  have hk22 : k ≤ 22 := by omega
  have hkc : k ≤ co := by omega
  have hwo : ∀ p ∈ once, (Lit.int .u64 p.f0).wf = true := fun p hp => (g2.2 p (List.mem_of_mem_take (ho ▸ hp))).1
  have hpo : ∀ p ∈ once, 0 ≤ p.f0 := fun p hp => (bounds_u64 (hwo p hp)).1
  have hCo : k26.C w Ao k once := by
    rw [← hok, ← ho]
    rcases Nat.le_total once0.length 22 with h | h
    · rw [List.take_of_length_le h]; exact hr2
    · exact Kd.C_take hr2 (by omega)
  have hpc := fun W => points_own Ao co once0 k W hk hc2
  replace hpc := Lib.hid hpc
  replace hCo := Aside0.mk hCo
  replace hl22 := Lib.hid hl22
  replace hwf := Aside0.mk hwf
  replace hpos := Aside0.mk hpos
  replace hwo := Aside0.mk hwo
  replace hpo := Aside0.mk hpo
  replace hok := Lib.hid hok
  replace ho := Lib.hid ho
  replace hk := Lib.hid hk
  clear hr2 g2 hc2
  go_enter Try.func7, Try.ntmps7
  go_wp2_with fail
  refine hfw.out.mono ?_; rintro e_ w1 ⟨v, rfl, hR1, hb1⟩
  obtain ⟨A, c, rfl, hcc, hC1⟩ := Kd.R_reads hR1
  replace hC1 := Aside0.mk (kdAt_C hC1 hb1)
  clear hR1 hfw
  go_wp2_with fail
  refine (hpc.out w1).mono ?_; rintro e_ w2 ⟨rfl, hb2⟩
  have hB2 := below_step hb1 hb2
  have hC2 := Aside0.mk (Kd.C_below hC1.out hb2)
  have hCo2 := Aside0.mk (Kd.C_below hCo.out hB2)
  have hmc := more_calls A c l u Ao co once w2 hC2.out hcc (by omega) hwf.out (by rw [hok.out]; exact hCo2.out) (by rw [hok.out]; exact hkc) hwo.out hl22.out (by rw [hok.out]; exact hk22)
  rw [hok.out] at hmc
  replace hmc := Aside0.mk hmc
  clear hpc
  go_wp2_with fail
  refine hmc.out.mono ?_; rintro e_ w3 ⟨hM, hb3⟩
  clear hmc
  obtain ⟨r, hr, hrr⟩ := at_f_any l u (by omega)
  have hac := Aside0.mk (demurralref15_At.calls 2000 A c l u r w3 (Kd.C_below hC2.out hb3) hcc hr)
  have hrf := right_f l (by omega) hpos.out
  rcases hM with ⟨hR, rfl⟩ | ⟨hR, hno, rfl⟩ | ⟨hR, i, x, al, hi, hx, hu, hal, hM⟩
  · clear hrr hr
    go_wp2_with fail
    refine hac.out.mono ?_; rintro e_ w4 ⟨rfl, hb4⟩
    have hB4 := below_step hb3 hb4
    have hrc := Aside0.mk (demurralref15_Right.calls 2000 A c l _ w4 (Kd.C_below hC2.out hB4) hcc hrf)
    clear hac
    go_wp2_with fail
    refine hrc.out.mono ?_; rintro e_ w5 ⟨rfl, hb5⟩
    have hB5 := below_step hB4 hb5
    clear hrc
    rw [hR]
    go_wp2_with fail
    refine (alive_calls w5).mono ?_; rintro e_ w6 ⟨rfl, hb6⟩
    go_wp2
    go_ret
    exact ⟨rfl, below_step hB2 (below_step hB5 hb6)⟩
  · obtain rfl : r = -1 := by
      rcases hrr with ⟨h, _⟩ | ⟨t, _, ht, hut⟩
      · exact h
      · exact absurd hut (hno t ht)
    clear hrr hr hno
    go_wp2_with fail
    refine hac.out.mono ?_; rintro e_ w4 ⟨rfl, hb4⟩
    have hB4 := below_step hb3 hb4
    have hrc := Aside0.mk (demurralref15_Right.calls 2000 A c l _ w4 (Kd.C_below hC2.out hB4) hcc hrf)
    clear hac
    go_wp2_with fail
    refine hrc.out.mono ?_; rintro e_ w5 ⟨rfl, hb5⟩
    have hB5 := below_step hB4 hb5
    clear hrc
    rw [hR]
    go_wp2_with fail
    refine (alive_calls w5).mono ?_; rintro e_ w6 ⟨rfl, hb6⟩
    go_wp2
    go_ret
    exact ⟨rfl, below_step hB2 (below_step hB5 hb6)⟩
  · obtain rfl : r = (i : Int) := by
      have := at_here l u (by omega) hR i hi (by rw [hx]; exact hu)
      rw [hr] at this
      exact Option.some.inj this
    have hx22 : x.f3.length ≤ 22 := hl22.out x (hx ▸ rd29_mem l i hi)
    have hxp : ∀ p ∈ x.f3, 0 ≤ p.f0 := hpos.out x (hx ▸ rd29_mem l i hi)
    have hin : (i : Int) < l.length := by omega
    obtain ⟨N, hN⟩ : ∃ N, al.length = N := ⟨_, rfl⟩
    have hN44 : N ≤ 44 := by rw [← hN, ← hal, List.length_append, hok.out]; omega
    have hpal : ∀ p ∈ al, 0 ≤ p.f0 := fun p hp => by
      rw [← hal] at hp
      rcases List.mem_append.1 hp with h | h
      · exact hxp p h
      · exact hpo.out p h
    have hW := with_set l { x with f3 := al } (by omega) hR i hi (by rw [hx])
    have haf := all_f x once (by omega) (by rw [hok.out]; omega)
    rw [hal] at haf
    have hni : decide ((i : Int) < 0) = false := decide_eq_false (by omega)
    have hN44' : al.length ≤ 44 := by omega
    have htf := twice_f al (by omega) 3000 (by have : al.length * (al.length + 2) ≤ 44 * 46 := Nat.mul_le_mul hN44' (by omega); omega)
    have hpf := points_f al (by omega) hpal 3000 (by omega)
    replace htf := Lib.hid htf
    replace hpf := Lib.hid hpf
    replace haf := Lib.hid haf
    replace hW := Aside0.mk hW
    replace hN := Lib.hid hN
    replace hal := Lib.hid hal
    replace hu := Lib.hid hu
    replace hx := Lib.hid hx
    replace hxp := Aside0.mk hxp
    replace hpal := Aside0.mk hpal
    clear hrr hr
    rcases hM with ⟨htw, rfl⟩ | ⟨htw, h20, rfl⟩ | ⟨htw, h20, hab, rfl⟩ | ⟨htw, h20, hab, Ap, cp, rfl, hcp, hCp⟩
    · go_wp2_with fail
      refine hac.out.mono ?_; rintro e_ w4 ⟨rfl, hb4⟩
      have hB4 := below_step hb3 hb4
      have hrc := Aside0.mk (demurralref15_Right.calls 2000 A c l _ w4 (Kd.C_below hC2.out hB4) hcc hrf)
      clear hac hrf
      go_wp2_with fail
      refine hrc.out.mono ?_; rintro e_ w5 ⟨rfl, hb5⟩
      have hB5 := below_step hB4 hb5
      clear hrc hB4
      rw [hR]
      obtain ⟨ad, A4, c4, eA, q0, q1, q2, q3, q4, hc4, hC4⟩ := at_T29 (Kd.C_below hC2.out hB5) (i : Int) (by omega) (by omega)
      subst eA
      rw [hx.out, Int.toNat_natCast] at q0 q1 q2 q3 q4
      rw [hx.out] at hc4 hC4
      replace hC4 := Aside0.mk hC4
      obtain ⟨w6, hw6⟩ : ∃ w6, w5.alloc (.cells #[.int .u64 0, .string ⟨#[]⟩, .int .u64 0, .string ⟨#[]⟩, .slice none 0 0] 29 (0, 0)) = w6 := ⟨_, rfl⟩
      have hb6 : Below w5.heap.size w5 w6 := by rw [← hw6]; exact below_alloc (Below.refl _ _) _
      have hK6 : w6.heap[w5.heap.size]? = some (.cells #[.int .u64 0, .string ⟨#[]⟩, .int .u64 0, .string ⟨#[]⟩, .slice none 0 0] 29 (0, 0)) := by rw [← hw6]; exact heap_alloc_new _ _
      go_wp2_with ((with_reducible refine gate_store (t := 29) (p := 10) rfl ?_); go_loud (refine wpList_storeBox rfl rfl 29 (.tmp 10) (.tmp 53) rfl (sv x A4 c4) [.int .u64 x.f0, .string x.f1, .int .u64 x.f2.f0, .string x.f2.f1, .slice A4 x.f3.length c4] rfl rfl rfl (by kernel_rfl) (by simp [Value.oneCell']) hK6 rfl ?_); intro w7 hK7 hg7 hs7; clear hs7; have hb7 := Aside0.mk (pw_below_grown hb6 _ hb6.size hg7 (fun k hk => by cases hk; exact Nat.le_refl _)); clear hw6 hb6 hK6 hg7 q0 q1 q2 q3 q4; obtain ⟨y0, y1, y2, y3, y4⟩ := box5 hK7)
      have hB7 := Aside0.mk (below_step hB5 hb7.out)
      have hall := demurralref15_All.calls x.f0 x.f1 x.f2.f0 x.f2.f1 A4 c4 x.f3 Ao co once al w7 (Kd.C_below hC4.out hb7.out) hc4 (by rw [hok.out]; exact Kd.C_below hCo2.out hB7.out) (by rw [hok.out]; exact hkc) haf.out
      rw [hok.out] at hall
      replace hall := Aside0.mk hall
      refine hall.out.mono ?_; rintro e_ w8 ⟨v8, rfl, hR8, hb8⟩
      clear hall y0 y1 y2 y3 y4
      obtain ⟨B, cB, rfl, hcB, hCB⟩ := Kd.R_reads hR8
      rw [hN.out] at hcB hCB ⊢
      have hK8 := (hb8.block _ (blk_lt hK7)).trans hK7
      have hgs : w5.heap.size < w8.heap.size := blk_lt hK8
      have z4 : w8.cell? ⟨w5.heap.size, 4, none⟩ = some (.slice A4 x.f3.length c4) := (blk_cell hK8 4).trans rfl
      have f4 := blk_frozen hK8 4
      have hK9 := blk_put hK8 4 (.slice B N cB) rfl
      have hg9 : w8.grownBy (w8.setCell ⟨w5.heap.size, 4, none⟩ (.slice B N cB)) (some w5.heap.size) := ⟨rfl, rfl, rfl, by simp [World.setCell], fun k _ hk => Below.heap_setCell w8 _ _ k (fun e => hk (by rw [e]))⟩
      have hRB := Kd.R_base hR8
      have hR9 := Kd.R_grown (Kd.R_tight rfl hR8) hg9 (fun k hk e => by have h1 := hRB k hk.symm; injection e with e; have := blk_lt hK7; omega)
      rw [hN.out] at hR9
      generalize hw9 : w8.setCell ⟨w5.heap.size, 4, none⟩ (.slice B N cB) = w9 at hK9 hg9 hR9
      have hB9 := Aside0.mk (pw_below_grown (below_step hb7.out hb8) w5.heap.size (below_step hb7.out hb8).size hg9 (fun k hk => by cases hk; exact Nat.le_refl _))
      have hCB9 := (Kd.R_reads' hR9).2.2
      rw [hN.out] at hCB9
      replace hCB9 := Aside0.mk hCB9
      have y4 : w9.cell? ⟨w5.heap.size, 4, none⟩ = some (.slice B N cB) := (blk_cell hK9 4).trans rfl
      have htc := demurralref15_Twice.calls 3000 B cB al _ w9 (by rw [hN.out]; exact hCB9.out) (by rw [hN.out]; exact hcB) htf.out
      rw [hN.out] at htc
      replace htc := Aside0.mk htc
      replace hC2 := Aside0.mk (Kd.C_below hC2.out hB5)
      clear hK7 hK8 hg9 hR8 hR9 hRB hCB hC4 hb8 hgs
      go_wp2_with fail
      refine htc.out.mono ?_; rintro e_ w10 ⟨rfl, hb10⟩
      have hK10 := (hb10.block _ (blk_lt hK9)).trans hK9
      have hB10 := Aside0.mk (below_step hB9.out hb10)
      clear htc y4 hK9 z4 f4 hw9 hb7
      rw [htw]
      go_wp2_with fail
      refine (alive_calls w10).mono ?_; rintro e_ w14 ⟨rfl, hb14⟩
      go_wp2
      go_ret
      exact ⟨rfl, below_step hB2 (below_step hB5 (below_step hB10.out hb14))⟩
    · have hN20 : (20 : Int) < (N : Int) := by have := hN.out; omega
      replace h20 := Lib.hid h20
      go_wp2_with fail
      refine hac.out.mono ?_; rintro e_ w4 ⟨rfl, hb4⟩
      have hB4 := below_step hb3 hb4
      have hrc := Aside0.mk (demurralref15_Right.calls 2000 A c l _ w4 (Kd.C_below hC2.out hB4) hcc hrf)
      clear hac hrf
      go_wp2_with fail
      refine hrc.out.mono ?_; rintro e_ w5 ⟨rfl, hb5⟩
      have hB5 := below_step hB4 hb5
      clear hrc hB4
      rw [hR]
      obtain ⟨ad, A4, c4, eA, q0, q1, q2, q3, q4, hc4, hC4⟩ := at_T29 (Kd.C_below hC2.out hB5) (i : Int) (by omega) (by omega)
      subst eA
      rw [hx.out, Int.toNat_natCast] at q0 q1 q2 q3 q4
      rw [hx.out] at hc4 hC4
      replace hC4 := Aside0.mk hC4
      obtain ⟨w6, hw6⟩ : ∃ w6, w5.alloc (.cells #[.int .u64 0, .string ⟨#[]⟩, .int .u64 0, .string ⟨#[]⟩, .slice none 0 0] 29 (0, 0)) = w6 := ⟨_, rfl⟩
      have hb6 : Below w5.heap.size w5 w6 := by rw [← hw6]; exact below_alloc (Below.refl _ _) _
      have hK6 : w6.heap[w5.heap.size]? = some (.cells #[.int .u64 0, .string ⟨#[]⟩, .int .u64 0, .string ⟨#[]⟩, .slice none 0 0] 29 (0, 0)) := by rw [← hw6]; exact heap_alloc_new _ _
      go_wp2_with ((with_reducible refine gate_store (t := 29) (p := 10) rfl ?_); go_loud (refine wpList_storeBox rfl rfl 29 (.tmp 10) (.tmp 53) rfl (sv x A4 c4) [.int .u64 x.f0, .string x.f1, .int .u64 x.f2.f0, .string x.f2.f1, .slice A4 x.f3.length c4] rfl rfl rfl (by kernel_rfl) (by simp [Value.oneCell']) hK6 rfl ?_); intro w7 hK7 hg7 hs7; clear hs7; have hb7 := Aside0.mk (pw_below_grown hb6 _ hb6.size hg7 (fun k hk => by cases hk; exact Nat.le_refl _)); clear hw6 hb6 hK6 hg7 q0 q1 q2 q3 q4; obtain ⟨y0, y1, y2, y3, y4⟩ := box5 hK7)
      have hB7 := Aside0.mk (below_step hB5 hb7.out)
      have hall := demurralref15_All.calls x.f0 x.f1 x.f2.f0 x.f2.f1 A4 c4 x.f3 Ao co once al w7 (Kd.C_below hC4.out hb7.out) hc4 (by rw [hok.out]; exact Kd.C_below hCo2.out hB7.out) (by rw [hok.out]; exact hkc) haf.out
      rw [hok.out] at hall
      replace hall := Aside0.mk hall
      refine hall.out.mono ?_; rintro e_ w8 ⟨v8, rfl, hR8, hb8⟩
      clear hall y0 y1 y2 y3 y4
      obtain ⟨B, cB, rfl, hcB, hCB⟩ := Kd.R_reads hR8
      rw [hN.out] at hcB hCB ⊢
      have hK8 := (hb8.block _ (blk_lt hK7)).trans hK7
      have hgs : w5.heap.size < w8.heap.size := blk_lt hK8
      have z4 : w8.cell? ⟨w5.heap.size, 4, none⟩ = some (.slice A4 x.f3.length c4) := (blk_cell hK8 4).trans rfl
      have f4 := blk_frozen hK8 4
      have hK9 := blk_put hK8 4 (.slice B N cB) rfl
      have hg9 : w8.grownBy (w8.setCell ⟨w5.heap.size, 4, none⟩ (.slice B N cB)) (some w5.heap.size) := ⟨rfl, rfl, rfl, by simp [World.setCell], fun k _ hk => Below.heap_setCell w8 _ _ k (fun e => hk (by rw [e]))⟩
      have hRB := Kd.R_base hR8
      have hR9 := Kd.R_grown (Kd.R_tight rfl hR8) hg9 (fun k hk e => by have h1 := hRB k hk.symm; injection e with e; have := blk_lt hK7; omega)
      rw [hN.out] at hR9
      generalize hw9 : w8.setCell ⟨w5.heap.size, 4, none⟩ (.slice B N cB) = w9 at hK9 hg9 hR9
      have hB9 := Aside0.mk (pw_below_grown (below_step hb7.out hb8) w5.heap.size (below_step hb7.out hb8).size hg9 (fun k hk => by cases hk; exact Nat.le_refl _))
      have hCB9 := (Kd.R_reads' hR9).2.2
      rw [hN.out] at hCB9
      replace hCB9 := Aside0.mk hCB9
      have y4 : w9.cell? ⟨w5.heap.size, 4, none⟩ = some (.slice B N cB) := (blk_cell hK9 4).trans rfl
      have htc := demurralref15_Twice.calls 3000 B cB al _ w9 (by rw [hN.out]; exact hCB9.out) (by rw [hN.out]; exact hcB) htf.out
      rw [hN.out] at htc
      replace htc := Aside0.mk htc
      replace hC2 := Aside0.mk (Kd.C_below hC2.out hB5)
      clear hK7 hK8 hg9 hR8 hR9 hRB hCB hC4 hb8 hgs
      go_wp2_with fail
      refine htc.out.mono ?_; rintro e_ w10 ⟨rfl, hb10⟩
      have hK10 := (hb10.block _ (blk_lt hK9)).trans hK9
      have hB10 := Aside0.mk (below_step hB9.out hb10)
      clear htc y4 hK9 z4 f4 hw9 hb7
      rw [htw]
      have y4 : w10.cell? ⟨w5.heap.size, 4, none⟩ = some (.slice B N cB) := (blk_cell hK10 4).trans rfl
      go_wp2_with fail
      refine (alive_calls w10).mono ?_; rintro e_ w14 ⟨rfl, hb14⟩
      go_wp2
      go_ret
      exact ⟨rfl, below_step hB2 (below_step hB5 (below_step hB10.out hb14))⟩
    · have hN20 : ¬ ((20 : Int) < (N : Int)) := by have := hN.out; omega
      replace h20 := Lib.hid h20
      go_wp2_with fail
      refine hac.out.mono ?_; rintro e_ w4 ⟨rfl, hb4⟩
      have hB4 := below_step hb3 hb4
      have hrc := Aside0.mk (demurralref15_Right.calls 2000 A c l _ w4 (Kd.C_below hC2.out hB4) hcc hrf)
      clear hac hrf
      go_wp2_with fail
      refine hrc.out.mono ?_; rintro e_ w5 ⟨rfl, hb5⟩
      have hB5 := below_step hB4 hb5
      clear hrc hB4
      rw [hR]
      obtain ⟨ad, A4, c4, eA, q0, q1, q2, q3, q4, hc4, hC4⟩ := at_T29 (Kd.C_below hC2.out hB5) (i : Int) (by omega) (by omega)
      subst eA
      rw [hx.out, Int.toNat_natCast] at q0 q1 q2 q3 q4
      rw [hx.out] at hc4 hC4
      replace hC4 := Aside0.mk hC4
      obtain ⟨w6, hw6⟩ : ∃ w6, w5.alloc (.cells #[.int .u64 0, .string ⟨#[]⟩, .int .u64 0, .string ⟨#[]⟩, .slice none 0 0] 29 (0, 0)) = w6 := ⟨_, rfl⟩
      have hb6 : Below w5.heap.size w5 w6 := by rw [← hw6]; exact below_alloc (Below.refl _ _) _
      have hK6 : w6.heap[w5.heap.size]? = some (.cells #[.int .u64 0, .string ⟨#[]⟩, .int .u64 0, .string ⟨#[]⟩, .slice none 0 0] 29 (0, 0)) := by rw [← hw6]; exact heap_alloc_new _ _
      go_wp2_with ((with_reducible refine gate_store (t := 29) (p := 10) rfl ?_); go_loud (refine wpList_storeBox rfl rfl 29 (.tmp 10) (.tmp 53) rfl (sv x A4 c4) [.int .u64 x.f0, .string x.f1, .int .u64 x.f2.f0, .string x.f2.f1, .slice A4 x.f3.length c4] rfl rfl rfl (by kernel_rfl) (by simp [Value.oneCell']) hK6 rfl ?_); intro w7 hK7 hg7 hs7; clear hs7; have hb7 := Aside0.mk (pw_below_grown hb6 _ hb6.size hg7 (fun k hk => by cases hk; exact Nat.le_refl _)); clear hw6 hb6 hK6 hg7 q0 q1 q2 q3 q4; obtain ⟨y0, y1, y2, y3, y4⟩ := box5 hK7)
      have hB7 := Aside0.mk (below_step hB5 hb7.out)
      have hall := demurralref15_All.calls x.f0 x.f1 x.f2.f0 x.f2.f1 A4 c4 x.f3 Ao co once al w7 (Kd.C_below hC4.out hb7.out) hc4 (by rw [hok.out]; exact Kd.C_below hCo2.out hB7.out) (by rw [hok.out]; exact hkc) haf.out
      rw [hok.out] at hall
      replace hall := Aside0.mk hall
      refine hall.out.mono ?_; rintro e_ w8 ⟨v8, rfl, hR8, hb8⟩
      clear hall y0 y1 y2 y3 y4
      obtain ⟨B, cB, rfl, hcB, hCB⟩ := Kd.R_reads hR8
      rw [hN.out] at hcB hCB ⊢
      have hK8 := (hb8.block _ (blk_lt hK7)).trans hK7
      have hgs : w5.heap.size < w8.heap.size := blk_lt hK8
      have z4 : w8.cell? ⟨w5.heap.size, 4, none⟩ = some (.slice A4 x.f3.length c4) := (blk_cell hK8 4).trans rfl
      have f4 := blk_frozen hK8 4
      have hK9 := blk_put hK8 4 (.slice B N cB) rfl
      have hg9 : w8.grownBy (w8.setCell ⟨w5.heap.size, 4, none⟩ (.slice B N cB)) (some w5.heap.size) := ⟨rfl, rfl, rfl, by simp [World.setCell], fun k _ hk => Below.heap_setCell w8 _ _ k (fun e => hk (by rw [e]))⟩
      have hRB := Kd.R_base hR8
      have hR9 := Kd.R_grown (Kd.R_tight rfl hR8) hg9 (fun k hk e => by have h1 := hRB k hk.symm; injection e with e; have := blk_lt hK7; omega)
      rw [hN.out] at hR9
      generalize hw9 : w8.setCell ⟨w5.heap.size, 4, none⟩ (.slice B N cB) = w9 at hK9 hg9 hR9
      have hB9 := Aside0.mk (pw_below_grown (below_step hb7.out hb8) w5.heap.size (below_step hb7.out hb8).size hg9 (fun k hk => by cases hk; exact Nat.le_refl _))
      have hCB9 := (Kd.R_reads' hR9).2.2
      rw [hN.out] at hCB9
      replace hCB9 := Aside0.mk hCB9
      have y4 : w9.cell? ⟨w5.heap.size, 4, none⟩ = some (.slice B N cB) := (blk_cell hK9 4).trans rfl
      have htc := demurralref15_Twice.calls 3000 B cB al _ w9 (by rw [hN.out]; exact hCB9.out) (by rw [hN.out]; exact hcB) htf.out
      rw [hN.out] at htc
      replace htc := Aside0.mk htc
      replace hC2 := Aside0.mk (Kd.C_below hC2.out hB5)
      clear hK7 hK8 hg9 hR8 hR9 hRB hCB hC4 hb8 hgs
      go_wp2_with fail
      refine htc.out.mono ?_; rintro e_ w10 ⟨rfl, hb10⟩
      have hK10 := (hb10.block _ (blk_lt hK9)).trans hK9
      have hB10 := Aside0.mk (below_step hB9.out hb10)
      clear htc y4 hK9 z4 f4 hw9 hb7
      rw [htw]
      have y4 : w10.cell? ⟨w5.heap.size, 4, none⟩ = some (.slice B N cB) := (blk_cell hK10 4).trans rfl
      have hpc := demurralref15_Points.calls 3000 B cB al _ w10 (by rw [hN.out]; exact Kd.C_below hCB9.out hb10) (by rw [hN.out]; exact hcB) hpf.out
      rw [← apart_twice htw, hab, hN.out] at hpc
      replace hpc := Aside0.mk hpc
      go_wp2_with fail
      refine hpc.out.mono ?_; rintro e_ w11 ⟨rfl, hb11⟩
      have hB11 := Aside0.mk (below_step hB10.out hb11)
      clear hpc y4
      go_wp2_with fail
      refine (alive_calls w11).mono ?_; rintro e_ w14 ⟨rfl, hb14⟩
      go_wp2
      go_ret
      exact ⟨rfl, below_step hB2 (below_step hB5 (below_step hB11.out hb14))⟩
    · have hN20 : ¬ ((20 : Int) < (N : Int)) := by have := hN.out; omega
      replace h20 := Lib.hid h20
      replace hCp := Aside0.mk hCp
      go_wp2_with fail
      refine hac.out.mono ?_; rintro e_ w4 ⟨rfl, hb4⟩
      have hB4 := below_step hb3 hb4
      have hrc := Aside0.mk (demurralref15_Right.calls 2000 A c l _ w4 (Kd.C_below hC2.out hB4) hcc hrf)
      clear hac hrf
      go_wp2_with fail
      refine hrc.out.mono ?_; rintro e_ w5 ⟨rfl, hb5⟩
      have hB5 := below_step hB4 hb5
      clear hrc hB4
      rw [hR]
      obtain ⟨ad, A4, c4, eA, q0, q1, q2, q3, q4, hc4, hC4⟩ := at_T29 (Kd.C_below hC2.out hB5) (i : Int) (by omega) (by omega)
      subst eA
      rw [hx.out, Int.toNat_natCast] at q0 q1 q2 q3 q4
      rw [hx.out] at hc4 hC4
      replace hC4 := Aside0.mk hC4
      obtain ⟨w6, hw6⟩ : ∃ w6, w5.alloc (.cells #[.int .u64 0, .string ⟨#[]⟩, .int .u64 0, .string ⟨#[]⟩, .slice none 0 0] 29 (0, 0)) = w6 := ⟨_, rfl⟩
      have hb6 : Below w5.heap.size w5 w6 := by rw [← hw6]; exact below_alloc (Below.refl _ _) _
      have hK6 : w6.heap[w5.heap.size]? = some (.cells #[.int .u64 0, .string ⟨#[]⟩, .int .u64 0, .string ⟨#[]⟩, .slice none 0 0] 29 (0, 0)) := by rw [← hw6]; exact heap_alloc_new _ _
      go_wp2_with ((with_reducible refine gate_store (t := 29) (p := 10) rfl ?_); go_loud (refine wpList_storeBox rfl rfl 29 (.tmp 10) (.tmp 53) rfl (sv x A4 c4) [.int .u64 x.f0, .string x.f1, .int .u64 x.f2.f0, .string x.f2.f1, .slice A4 x.f3.length c4] rfl rfl rfl (by kernel_rfl) (by simp [Value.oneCell']) hK6 rfl ?_); intro w7 hK7 hg7 hs7; clear hs7; have hb7 := Aside0.mk (pw_below_grown hb6 _ hb6.size hg7 (fun k hk => by cases hk; exact Nat.le_refl _)); clear hw6 hb6 hK6 hg7 q0 q1 q2 q3 q4; obtain ⟨y0, y1, y2, y3, y4⟩ := box5 hK7)
      have hB7 := Aside0.mk (below_step hB5 hb7.out)
      have hall := demurralref15_All.calls x.f0 x.f1 x.f2.f0 x.f2.f1 A4 c4 x.f3 Ao co once al w7 (Kd.C_below hC4.out hb7.out) hc4 (by rw [hok.out]; exact Kd.C_below hCo2.out hB7.out) (by rw [hok.out]; exact hkc) haf.out
      rw [hok.out] at hall
      replace hall := Aside0.mk hall
      refine hall.out.mono ?_; rintro e_ w8 ⟨v8, rfl, hR8, hb8⟩
      clear hall y0 y1 y2 y3 y4
      obtain ⟨B, cB, rfl, hcB, hCB⟩ := Kd.R_reads hR8
      rw [hN.out] at hcB hCB ⊢
      have hK8 := (hb8.block _ (blk_lt hK7)).trans hK7
      have hgs : w5.heap.size < w8.heap.size := blk_lt hK8
      have z4 : w8.cell? ⟨w5.heap.size, 4, none⟩ = some (.slice A4 x.f3.length c4) := (blk_cell hK8 4).trans rfl
      have f4 := blk_frozen hK8 4
      have hK9 := blk_put hK8 4 (.slice B N cB) rfl
      have hg9 : w8.grownBy (w8.setCell ⟨w5.heap.size, 4, none⟩ (.slice B N cB)) (some w5.heap.size) := ⟨rfl, rfl, rfl, by simp [World.setCell], fun k _ hk => Below.heap_setCell w8 _ _ k (fun e => hk (by rw [e]))⟩
      have hRB := Kd.R_base hR8
      have hR9 := Kd.R_grown (Kd.R_tight rfl hR8) hg9 (fun k hk e => by have h1 := hRB k hk.symm; injection e with e; have := blk_lt hK7; omega)
      rw [hN.out] at hR9
      generalize hw9 : w8.setCell ⟨w5.heap.size, 4, none⟩ (.slice B N cB) = w9 at hK9 hg9 hR9
      have hB9 := Aside0.mk (pw_below_grown (below_step hb7.out hb8) w5.heap.size (below_step hb7.out hb8).size hg9 (fun k hk => by cases hk; exact Nat.le_refl _))
      have hCB9 := (Kd.R_reads' hR9).2.2
      rw [hN.out] at hCB9
      replace hCB9 := Aside0.mk hCB9
      have y4 : w9.cell? ⟨w5.heap.size, 4, none⟩ = some (.slice B N cB) := (blk_cell hK9 4).trans rfl
      have htc := demurralref15_Twice.calls 3000 B cB al _ w9 (by rw [hN.out]; exact hCB9.out) (by rw [hN.out]; exact hcB) htf.out
      rw [hN.out] at htc
      replace htc := Aside0.mk htc
      replace hC2 := Aside0.mk (Kd.C_below hC2.out hB5)
      clear hK7 hK8 hg9 hR8 hR9 hRB hCB hC4 hb8 hgs
      go_wp2_with fail
      refine htc.out.mono ?_; rintro e_ w10 ⟨rfl, hb10⟩
      have hK10 := (hb10.block _ (blk_lt hK9)).trans hK9
      have hB10 := Aside0.mk (below_step hB9.out hb10)
      clear htc y4 hK9 z4 f4 hw9 hb7
      rw [htw]
      have y4 : w10.cell? ⟨w5.heap.size, 4, none⟩ = some (.slice B N cB) := (blk_cell hK10 4).trans rfl
      have hpc := demurralref15_Points.calls 3000 B cB al _ w10 (by rw [hN.out]; exact Kd.C_below hCB9.out hb10) (by rw [hN.out]; exact hcB) hpf.out
      rw [← apart_twice htw, hab, hN.out] at hpc
      replace hpc := Aside0.mk hpc
      go_wp2_with fail
      refine hpc.out.mono ?_; rintro e_ w11 ⟨rfl, hb11⟩
      have hB11 := Aside0.mk (below_step hB10.out hb11)
      clear hpc y4
      go_wp2_with fail
      refine (alive_calls w11).mono ?_; rintro e_ w12 ⟨rfl, hb12⟩
      have hB12 := Aside0.mk (below_step hB11.out hb12)
      obtain ⟨u0, u1, u2, u3, u4⟩ := box5 (((below_step hb11 hb12).block _ (blk_lt hK10)).trans hK10)
      have hwc := demurralref15_With.calls 2000 _ (some ad) c l x.f0 x.f1 x.f2.f0 x.f2.f1 _ B cB al _ w12 (Kd.V_mk hcc (Kd.C_F k29_heap (Kd.C_below hC2.out hB12.out))) (Kd.V_mk (by rw [hN.out]; exact hcB) (Kd.C_F k26_heap (by rw [hN.out]; exact Kd.C_below hCB9.out (below_step hb10 (below_step hb11 hb12))))) hW.out
      rw [hN.out] at hwc
      replace hwc := Aside0.mk hwc
      go_wp2_with fail
      refine hwc.out.mono ?_; rintro e_ w13 ⟨v0, rfl, hNn, hb13⟩
      obtain ⟨A9, c9, rfl, hc9, hC9⟩ := Kd.N_reads hNn
      have hlen : (l.set i { x with f3 := al }).length = l.length := List.length_set
      have hB13 := Aside0.mk (below_step hB12.out hb13)
      have hsame := demurralref15_Same.calls 2000 Ap cp (l.set i { x with f3 := al }) A9 c9 (l.set i { x with f3 := al }) true w13 (by rw [hlen]; exact Kd.C_below hCp.out (below_step (below_step hb4 hb5) hB13.out)) (by rw [hlen]; exact hcp) hC9 hc9 (by
        rw [← sameB_refl (l.set i { x with f3 := al })]
        refine same_f _ _ (by rw [hlen]; omega) (fun s hs => ?_)
        rcases List.mem_or_eq_of_mem_set hs with h | rfl
        · have := hl22.out s h; omega
        · show al.length ≤ 1000
          rw [hN.out]; omega)
      rw [hlen] at hsame hNn
      replace hsame := Aside0.mk hsame
      replace hlen := Lib.hid hlen
      clear hwc hNn hC9 u0 u1 u2 u3 u4
      go_wp2_with fail
      refine hsame.out.mono ?_; rintro e_ w15 ⟨rfl, hb15⟩
      go_wp2
      go_ret
      exact ⟨rfl, below_step hB2 (below_step hB5 (below_step hB13.out hb15))⟩
end Go.Proofs.Ytkomcddnfjbifaa.Q
