/- prekeys.Publish: shelves with a user's one, or anew; or why not.
   Conditions: the list is read as shelves, and its points' numbers are of 64 bits. -/
import Derived.Test.YtkomcddnfjbifaaHInsert
import Derived.Handy
namespace Go.Proofs.Ytkomcddnfjbifaa.Q
open Go.RowKit Go.Proofs.YtkomcddnfjbifaaW.PrintWords Go.Proofs.YtkomcddnfjbifaaW.PrintLast Go.Proofs.YtkomcddnfjbifaaW.PrintMore
set_option linter.unusedVariables false
set_option linter.unusedSimpArgs false

theorem enter34 (args : Array Value) (W : World) : (callFunc 34 args).run Try.prog W = .ok (.enter 34 args) W := by
  have h := Try.func34
  simp [callFunc, h, Try.f34, Sem.run_bind]
abbrev boxS (x : S29) (A : Option Addr) (c : Nat) : Obj := .cells #[.int .u64 x.f0, .string x.f1, .int .u64 x.f2.f0, .string x.f2.f1, .slice A x.f3.length c] 29 (0, 0)
set_option maxHeartbeats 1000000 in
set_option maxRecDepth 100000 in
theorem publish1_calls (x : S29) (A : Option Addr) (c : Nat) (s : S29) (As : Option Addr) (cs g : Nat) (w : World) (hg : w.heap[g]? = some (boxS s As cs)) :
    Calls Try.prog 34 #[sv x A c, .pointer (some ⟨g, 0, none⟩)] w fun e w' => e = .returned (sv s As cs) ∧ Below w.heap.size w w' := by
  obtain ⟨w1, hw1⟩ : ∃ w1, w.alloc (boxS x A c) = w1 := ⟨_, rfl⟩
  have hb1 : Below w.heap.size w w1 := by rw [← hw1]; exact below_alloc (Below.refl _ _) _
  have hs1 : w1.heap.size = w.heap.size + 1 := by rw [← hw1]; simp
  obtain ⟨w2, hw2⟩ : ∃ w2, w1.alloc (.cells #[.int .u64 0, .string ⟨#[]⟩, .int .u64 0, .string ⟨#[]⟩, .slice none 0 0] 29 (0, 0)) = w2 := ⟨_, rfl⟩
  have hb2 : Below w1.heap.size w1 w2 := by rw [← hw2]; exact below_alloc (Below.refl _ _) _
  have hK2 : w2.heap[w.heap.size + 1]? = some (.cells #[.int .u64 0, .string ⟨#[]⟩, .int .u64 0, .string ⟨#[]⟩, .slice none 0 0] 29 (0, 0)) := by rw [← hs1, ← hw2]; exact heap_alloc_new _ _
  have hB2 := below_step hb1 hb2
  have hg2 := (hB2.block _ (blk_lt hg)).trans hg
  have z0 : w2.cell? ⟨g, 0, none⟩ = some (.int .u64 s.f0) := (blk_cell hg2 0).trans rfl
  have z1 : w2.cell? ⟨g, 1, none⟩ = some (.string s.f1) := (blk_cell hg2 1).trans rfl
  have z2 : w2.cell? ⟨g, 2, none⟩ = some (.int .u64 s.f2.f0) := (blk_cell hg2 2).trans rfl
  have z3 : w2.cell? ⟨g, 3, none⟩ = some (.string s.f2.f1) := (blk_cell hg2 3).trans rfl
  have z4 : w2.cell? ⟨g, 4, none⟩ = some (.slice As s.f3.length cs) := (blk_cell hg2 4).trans rfl
  clear hg hg2
  go_enter Try.func34, Try.ntmps34
  go_wp2_with ((with_reducible refine gate_store (t := 29) (p := 3) rfl ?_); go_loud (refine wpList_storeBox rfl rfl 29 (.tmp 3) (.tmp 4) rfl (sv s As cs) [.int .u64 s.f0, .string s.f1, .int .u64 s.f2.f0, .string s.f2.f1, .slice As s.f3.length cs] rfl rfl rfl (by kernel_rfl) (by simp [Value.oneCell']) hK2 rfl ?_); intro w4 hK4 hg4 hs4)
  have hB4 : Below w.heap.size w w4 := pw_below_grown hB2 _ hB2.size hg4 (fun k hk => by cases hk; omega)
  have y0 : w4.cell? ⟨w.heap.size + 1, 0, none⟩ = some (.int .u64 s.f0) := (blk_cell hK4 0).trans rfl
  have y1 : w4.cell? ⟨w.heap.size + 1, 1, none⟩ = some (.string s.f1) := (blk_cell hK4 1).trans rfl
  have y2 : w4.cell? ⟨w.heap.size + 1, 2, none⟩ = some (.int .u64 s.f2.f0) := (blk_cell hK4 2).trans rfl
  have y3 : w4.cell? ⟨w.heap.size + 1, 3, none⟩ = some (.string s.f2.f1) := (blk_cell hK4 3).trans rfl
  have y4 : w4.cell? ⟨w.heap.size + 1, 4, none⟩ = some (.slice As s.f3.length cs) := (blk_cell hK4 4).trans rfl
  refine bodyPost_ret (v := sv s As cs) (by simp [results, Try.results34, go_sem, y0, y1, y2, y3, y4]) rfl ?_
  exact ⟨rfl, hB4⟩
/-- What prekeys.Publish answers. -/
def PubE (l : List S29) (s : S29) (e : Ending) (w' : World) : Prop :=
  ((rightB l && shelfB s) = false ∧ e = .returned (.tuple #[.slice none 0 0, .int .i64 1])) ∨
  (rightB l = true ∧ shelfB s = true ∧ ∃ i : Nat,
    ((i < l.length ∧ (rd_T29 l (i : Int)).f0 = s.f0 ∧ ((rd_T29 l (i : Int)).f1.toList == s.f1.toList) = false ∧ e = .returned (.tuple #[.slice none 0 0, .int .i64 3])) ∨
     (i < l.length ∧ (rd_T29 l (i : Int)).f0 = s.f0 ∧ ((rd_T29 l (i : Int)).f1.toList == s.f1.toList) = true ∧ ∃ A c, e = .returned (.tuple #[.slice A l.length c, .int .i64 0]) ∧ l.length ≤ c ∧ k29.C w' A l.length (l.set i s)) ∨
     (foundR l s.f0 i false ∧ l.length = 8 ∧ e = .returned (.tuple #[.slice none 0 0, .int .i64 6])) ∨
     (foundR l s.f0 i false ∧ l.length ≠ 8 ∧ ∃ A c, e = .returned (.tuple #[.slice A (l.length + 1) c, .int .i64 0]) ∧ l.length + 1 ≤ c ∧ k29.C w' A (l.length + 1) (l.take i ++ s :: l.drop i))))
set_option maxHeartbeats 4000000 in
set_option maxRecDepth 100000 in
theorem publish_calls (A0 : Option Addr) (c0 : Nat) (l0 : List S29) (s : S29) (As : Option Addr) (cs : Nat) (w : World) (hr0 : Kd.C k29 w A0 l0.length l0) (hc0 : l0.length ≤ c0) (hlen : l0.length ≤ 1000000) (hwf : ∀ s ∈ l0, ∀ p ∈ s.f3, (Lit.int .u64 p.f0).wf = true)
    (hCs : Kd.C k26 w As s.f3.length s.f3) (hcs : s.f3.length ≤ cs) (hwfs : ∀ p ∈ s.f3, (Lit.int .u64 p.f0).wf = true) :
    Calls Try.prog 22 #[.slice A0 l0.length c0, sv s As cs] w fun e w' => PubE l0 s e w' ∧ Below w.heap.size w w' := by
  obtain ⟨w1, hw1⟩ : ∃ w1, w.alloc (boxS s As cs) = w1 := ⟨_, rfl⟩
  have hb1 : Below w.heap.size w w1 := by rw [← hw1]; exact below_alloc (Below.refl _ _) _
  have hs1 : w1.heap.size = w.heap.size + 1 := by rw [← hw1]; simp
  have hK1 : w1.heap[w.heap.size]? = some (boxS s As cs) := by rw [← hw1]; exact heap_alloc_new _ _
  have hr1 := Kd.C_below hr0 hb1
  have hq : Hid (∀ W, Below w1.heap.size w1 W → W.cell? ⟨w.heap.size, 0, none⟩ = some (.int .u64 s.f0) ∧ W.cell? ⟨w.heap.size, 1, none⟩ = some (.string s.f1) ∧ W.cell? ⟨w.heap.size, 2, none⟩ = some (.int .u64 s.f2.f0) ∧ W.cell? ⟨w.heap.size, 3, none⟩ = some (.string s.f2.f1) ∧ W.cell? ⟨w.heap.size, 4, none⟩ = some (.slice As s.f3.length cs)) := Lib.hid fun W hW => box5 ((hW.block _ (Array.getElem?_eq_some_iff.1 hK1).1).trans hK1)
  obtain ⟨z0, _, _, _, _⟩ := hq.out _ (Below.refl _ w1)
  have hKs := Aside0.mk (k29_mk w s hcs hCs)
  replace hr0 := Aside0.mk hr0
  replace hCs := Aside0.mk hCs
  replace hwfs := Aside0.mk hwfs
  go_enter Try.func22, Try.ntmps22
  go_wp2_with fail
  refine (find_calls A0 c0 l0 s.f0 _ hr1 hc0 hlen).mono ?_; rintro e_ w2 ⟨⟨i, is, rfl, hf⟩, hb2⟩
  have hrc := Aside0.mk (right_calls A0 c0 l0 w2 (Kd.C_below hr1 hb2) hc0 hlen hwf)
  replace hf := Lib.hid hf
  clear z0
  go_wp2_with fail
  refine hrc.out.mono ?_; rintro e_ w3 ⟨rfl, hb3⟩
  have HB3 := Aside0.mk (below_step hb2 hb3)
  clear hrc hb2 hb3
  cases hR : rightB l0 with
  | false =>
    have hfin : ∀ W, Hid (PubE l0 s (.returned (.tuple #[.slice none 0 0, .int .i64 1])) W) := fun W => Lib.hid (.inl ⟨by rw [hR]; rfl, rfl⟩)
    have HB := Aside0.mk (below_step hb1 HB3.out)
    clear hb1
    go_wp2
    go_ret2
    exact ⟨(hfin _).out, HB.out⟩
  | true =>
    obtain ⟨z0, z1, z2, z3, z4⟩ := hq.out _ HB3.out
    have hsc := Aside0.mk (shelf_calls s As cs w3 (Kd.C_below hCs.out (below_step hb1 HB3.out)) hcs hwfs.out)
    go_wp2_with fail
    refine hsc.out.mono ?_; rintro e_ w4 ⟨rfl, hb4⟩
    have HB4 := Aside0.mk (below_step HB3.out hb4)
    clear hsc HB3 hb4 z0 z1 z2 z3 z4
    have HB := Aside0.mk (below_step hb1 HB4.out)
    clear hb1
    obtain ⟨z0, z1, z2, z3, z4⟩ := hq.out _ HB4.out
    cases hS : shelfB s with
    | false =>
      have hfin : ∀ W, Hid (PubE l0 s (.returned (.tuple #[.slice none 0 0, .int .i64 1])) W) := fun W => Lib.hid (.inl ⟨by rw [hS, Bool.and_false], rfl⟩)
      go_wp2
      go_ret2
      exact ⟨(hfin _).out, HB.out⟩
    | true =>
      clear z1 z2 z3 z4 hw1
      cases is with
      | true =>
        obtain ⟨hi, hu⟩ := found_yes hf.out
        obtain ⟨ad, A4, c4, eA, q0, q1, q2, q3, q4, hc4, hC4⟩ := kr_atC (w0 := w) (C_kdAt hr0.out HB.out) i hi
        subst eA
        have hin : (i : Int) < l0.length := by omega
        clear q0 q2 q3 q4 hC4 hc4 hr1
        obtain ⟨_, z1, _⟩ := hq.out _ HB4.out
        cases he : ((rd_T29 l0 (i : Int)).f1.toList == s.f1.toList) with
        | false =>
          have hfin : ∀ W, Hid (PubE l0 s (.returned (.tuple #[.slice none 0 0, .int .i64 3])) W) := fun W => Lib.hid (.inr ⟨hR, hS, i, .inl ⟨hi, hu, he, rfl⟩⟩)
          generalize rd_T29 l0 (i : Int) = x at q1 he
          clear hu
          go_wp2
          go_quiet (fail)
          go_wp2
          go_ret2
          exact ⟨(hfin _).out, pw_below_drewN HB.out _⟩
        | true =>
          have hfin : Hid (∀ e W, (∃ A c, e = Ending.returned (.tuple #[.slice A l0.length c, .int .i64 0]) ∧ l0.length ≤ c ∧ k29.C W A l0.length (l0.set i s)) → PubE l0 s e W) := Lib.hid fun e W ⟨A, c, h1, h2, h3⟩ => .inr ⟨hR, hS, i, .inr (.inl ⟨hi, hu, he, A, c, h1, h2, h3⟩)⟩
          have hrep : ∀ W, Below w4.heap.size w4 W → Aside0 (Calls Try.prog 30 #[.slice (some ad) l0.length c0, .int .i64 (i : Int), .func (.func 34) #[] #[.pointer (some ⟨w.heap.size, 0, none⟩)]] W fun e w' => ∃ v, e = .returned v ∧ Kd.R (kr w) 29 w' W.heap.size (fun _ => True) v (l0.set i s) ∧ Below W.heap.size W w') := fun W hW => Aside0.mk (replaced_calls 34 ⟨w.heap.size, 0, none⟩ (some ad) c0 l0 i s w W (below_step HB.out hW) enter34 hr0.out hc0 hlen hi (by
            intro W1 A c hbW h1 h2
            have hgW : W1.heap[w.heap.size]? = some (boxS s As cs) := ((below_step (below_step HB4.out hW) hbW).block _ (by omega)).trans hK1
            generalize rd_T29 l0 (i : Int) = y at h1 h2
            refine (publish1_calls y A c s As cs w.heap.size W1 hgW).mono ?_
            rintro e W2 ⟨rfl, hb⟩
            exact ⟨As, cs, rfl, hcs, hCs.out, hb⟩))
          generalize rd_T29 l0 (i : Int) = x at q1 he
          clear hu
          go_wp2
          go_quiet (fail)
          go_wp2_with fail
          refine (hrep _ (pw_below_drewN (Below.refl w4.heap.size w4) _)).out.mono ?_; rintro e_ w6 ⟨v, rfl, hR6, hb6⟩
          have hB6 := below_step HB.out (below_step (pw_below_drewN (Below.refl w4.heap.size w4) _) hb6)
          obtain ⟨A, c, rfl, hcc, hC6⟩ := Kd.R_reads hR6
          rw [List.length_set] at hcc hC6
          replace hC6 := Aside0.mk (kdAt_C hC6 hB6)
          clear hR6 hrep
          go_wp2
          go_ret2
          exact ⟨hfin.out _ _ ⟨A, c, rfl, hcc, hC6.out⟩, hB6⟩
      | false =>
        have hi0 := Aside0.mk hf.out.1
        by_cases h8 : l0.length = 8
        · have hfin : ∀ W, Hid (PubE l0 s (.returned (.tuple #[.slice none 0 0, .int .i64 6])) W) := fun W => Lib.hid (.inr ⟨hR, hS, i, .inr (.inr (.inl ⟨hf.out, h8, rfl⟩))⟩)
          have h8' : (l0.length : Int) = 8 := by omega
          go_wp2
          go_quiet (fail)
          go_wp2
          go_ret2
          exact ⟨(hfin _).out, pw_below_drewN HB.out _⟩
        · have hfin : Hid (∀ e W, (∃ A c, e = Ending.returned (.tuple #[.slice A (l0.length + 1) c, .int .i64 0]) ∧ l0.length + 1 ≤ c ∧ k29.C W A (l0.length + 1) (l0.take i ++ s :: l0.drop i)) → PubE l0 s e W) := Lib.hid fun e W ⟨A, c, h1, h2, h3⟩ => .inr ⟨hR, hS, i, .inr (.inr (.inr ⟨hf.out, h8, A, c, h1, h2, h3⟩))⟩
          have h8' : ((l0.length : Int) == 8) = false := beq_eq_false_iff_ne.2 (by omega)
          have h8'' : ¬ ((l0.length : Int) = 8) := by omega
          go_wp2
          go_quiet (fail)
          go_wp2
          obtain ⟨wa, hwa⟩ : ∃ wa, w4.drewN nq = wa := ⟨_, rfl⟩
          rw [hwa]
          have hba : Below w4.heap.size w4 wa := by rw [← hwa]; exact pw_below_drewN (Below.refl _ _) _
          have HBa := Aside0.mk (below_step HB4.out hba)
          have HBw := Aside0.mk (below_step HB.out hba)
          clear z0 hba hwa hK1 hr1 h8' h8''
          refine start_ (n := 8) (S := fun w' => w'.cell? ⟨w.heap.size, 0, none⟩ = some (.int .u64 s.f0) ∧ w'.cell? ⟨w.heap.size, 1, none⟩ = some (.string s.f1) ∧ w'.cell? ⟨w.heap.size, 2, none⟩ = some (.int .u64 s.f2.f0) ∧ w'.cell? ⟨w.heap.size, 3, none⟩ = some (.string s.f2.f1) ∧ w'.cell? ⟨w.heap.size, 4, none⟩ = some (.slice As s.f3.length cs)) (ds := [5]) #[false, false, false, false, false, false, false, false] (by kernel_rfl) rfl rfl ⟨(hq.out _ (below_step HBa.out (Below.refl wa.heap.size wa).drew)).1, (hq.out _ (below_step HBa.out (Below.refl wa.heap.size wa).drew)).2.1, (hq.out _ (below_step HBa.out (Below.refl wa.heap.size wa).drew)).2.2.1, (hq.out _ (below_step HBa.out (Below.refl wa.heap.size wa).drew)).2.2.2.1, (hq.out _ (below_step HBa.out (Below.refl wa.heap.size wa).drew)).2.2.2.2⟩ (fun hHeld => ?_)
          refine pure_ (i := 0) (N := some 46) (v := ?_) (a' := ?_) #[true, false, false, false, false, false, false, false] rfl rfl (by kernel_rfl) (fun _ _ _ h => h) (Or.inl ⟨by rfl, ?_⟩) ?_ ?_
          rotate_left
          · intro w'
            go_simp
            with_reducible rfl
          rotate_left
          · simp only [Act.put, List.setIfInBounds_toArray, List.set_cons_zero, List.set_cons_succ, i64_w, i32_w]
            rfl
          refine pure_ (i := 2) (N := some 48) (v := ?_) (a' := ?_) #[true, false, true, false, false, false, false, false] rfl rfl (by kernel_rfl) (fun _ _ _ h => h) (Or.inl ⟨by rfl, ?_⟩) ?_ ?_
          rotate_left
          · intro w'
            go_simp
            with_reducible rfl
          rotate_left
          · simp only [Act.put, List.setIfInBounds_toArray, List.set_cons_zero, List.set_cons_succ, i64_w, i32_w]
            rfl
          refine take_ (i := 3) (N := some 49) (v := ?_) (a' := ?_) #[true, false, true, true, false, false, false, false] rfl rfl (by kernel_rfl) (fun _ _ _ h => h) (Or.inl ⟨by rfl, ?_⟩) hHeld ?_ ?_
          rotate_left
          · rintro w' ⟨s0, s1, s2, s3, s4⟩
            go_simp
            with_reducible rfl
          rotate_left
          · simp only [Act.put, List.setIfInBounds_toArray, List.set_cons_zero, List.set_cons_succ, i64_w, i32_w]
            rfl
          refine join_ (σ := Value × Nat) 3 #[true, true, true, true, true, false, false, false] (fun s_ => [(47, s_.1), (50, .slice (some ⟨s_.2, 0, none⟩) 1 1)]) (fun s_ w' => (w'.cell? ⟨w.heap.size, 0, none⟩ = some (.int .u64 s.f0) ∧ w'.cell? ⟨w.heap.size, 1, none⟩ = some (.string s.f1) ∧ w'.cell? ⟨w.heap.size, 2, none⟩ = some (.int .u64 s.f2.f0) ∧ w'.cell? ⟨w.heap.size, 3, none⟩ = some (.string s.f2.f1) ∧ w'.cell? ⟨w.heap.size, 4, none⟩ = some (.slice As s.f3.length cs)) ∧ Kd.R (kr w) 29 w' wa.heap.size (fun _ => True) s_.1 l0 ∧ w'.heap[s_.2]? = some (.cells #[.int .u64 s.f0, .string s.f1, .int .u64 s.f2.f0, .string s.f2.f1, .slice As s.f3.length cs] 29 (0, 0)) ∧ (∀ k, s_.1.ownBlock = some k → s_.2 ≠ k) ∧ Below wa.heap.size wa w') ?_ ?_
          rotate_left
          · intro hCont
            refine two_ (i := 1) (j := 4) (Ni := some 47) (Nj := some 50) #[true, true, true, true, false, false, false, false] #[true, false, true, true, true, false, false, false] rfl rfl rfl rfl (by kernel_rfl) (by decide) (by decide) (fun K hK => ?_) (fun K hK => ?_)
            · skip
              refine goes_ Try.func36 (by kernel_rfl) rfl #[.slice A0 l0.length c0] (by rfl) rfl rfl (by simp only [List.map_toArray, List.map_cons, List.map_nil]; rfl) ?_
              with_reducible refine (clone_calls A0 c0 l0 w _ (below_step HBw.out (Below.refl wa.heap.size wa).drew) (C_kdAt hr0.out (below_step HBw.out (Below.refl wa.heap.size wa).drew)) hc0 hlen).mono ?_
              rintro e wq ⟨vq, rfl, hRq, hbq⟩
              refine ⟨_, rfl, ?_⟩
              refine hK.out _ _ ⟨(hq.out _ (below_step HBa.out (below_step (Below.refl wa.heap.size wa).drew hbq))).1, (hq.out _ (below_step HBa.out (below_step (Below.refl wa.heap.size wa).drew hbq))).2.1, (hq.out _ (below_step HBa.out (below_step (Below.refl wa.heap.size wa).drew hbq))).2.2.1, (hq.out _ (below_step HBa.out (below_step (Below.refl wa.heap.size wa).drew hbq))).2.2.2.1, (hq.out _ (below_step HBa.out (below_step (Below.refl wa.heap.size wa).drew hbq))).2.2.2.2⟩ (fun hHeld => ?_)
              clear hK K
              refine norm_ (a' := ?_) ?_ ?_
              rotate_left
              · show Act.put _ (some 47) _ = _
                simp only [Act.put, List.setIfInBounds_toArray, List.set_cons_zero, List.set_cons_succ, i64_w, i32_w]
                rfl
              refine one_ (i := 4) (N := some 50) #[true, true, true, true, true, false, false, false] rfl rfl (by kernel_rfl) (by decide) (fun K hK => ?_)
              refine value_ (w1 := ?_) (v := ?_) (by rfl) rfl ?_ ?_
              rotate_left 2
              · go_simp
                constructor
                · rfl
                · rfl
              refine hK.out _ _ ⟨(hq.out _ (below_step HBa.out (below_alloc (below_step (Below.refl wa.heap.size wa).drew hbq) (.cells #[.int .u64 s.f0, .string s.f1, .int .u64 s.f2.f0, .string s.f2.f1, .slice As s.f3.length cs] 29 (0, 0))))).1, (hq.out _ (below_step HBa.out (below_alloc (below_step (Below.refl wa.heap.size wa).drew hbq) (.cells #[.int .u64 s.f0, .string s.f1, .int .u64 s.f2.f0, .string s.f2.f1, .slice As s.f3.length cs] 29 (0, 0))))).2.1, (hq.out _ (below_step HBa.out (below_alloc (below_step (Below.refl wa.heap.size wa).drew hbq) (.cells #[.int .u64 s.f0, .string s.f1, .int .u64 s.f2.f0, .string s.f2.f1, .slice As s.f3.length cs] 29 (0, 0))))).2.2.1, (hq.out _ (below_step HBa.out (below_alloc (below_step (Below.refl wa.heap.size wa).drew hbq) (.cells #[.int .u64 s.f0, .string s.f1, .int .u64 s.f2.f0, .string s.f2.f1, .slice As s.f3.length cs] 29 (0, 0))))).2.2.2.1, (hq.out _ (below_step HBa.out (below_alloc (below_step (Below.refl wa.heap.size wa).drew hbq) (.cells #[.int .u64 s.f0, .string s.f1, .int .u64 s.f2.f0, .string s.f2.f1, .slice As s.f3.length cs] 29 (0, 0))))).2.2.2.2⟩ (fun hHeld => ?_)
              clear hK K
              refine norm_ (a' := ?_) ?_ ?_
              rotate_left
              · show Act.put _ (some 50) _ = _
                simp only [Act.put, List.setIfInBounds_toArray, List.set_cons_zero, List.set_cons_succ, i64_w, i32_w]
                rfl
              exact norm_ (by simp only [putAll, Act.put, List.setIfInBounds_toArray, List.set_cons_zero, List.set_cons_succ]) (hCont (vq, wq.heap.size) _ ⟨⟨(hq.out _ (below_step HBa.out (below_alloc (below_step (Below.refl wa.heap.size wa).drew hbq) (.cells #[.int .u64 s.f0, .string s.f1, .int .u64 s.f2.f0, .string s.f2.f1, .slice As s.f3.length cs] 29 (0, 0))))).1, (hq.out _ (below_step HBa.out (below_alloc (below_step (Below.refl wa.heap.size wa).drew hbq) (.cells #[.int .u64 s.f0, .string s.f1, .int .u64 s.f2.f0, .string s.f2.f1, .slice As s.f3.length cs] 29 (0, 0))))).2.1, (hq.out _ (below_step HBa.out (below_alloc (below_step (Below.refl wa.heap.size wa).drew hbq) (.cells #[.int .u64 s.f0, .string s.f1, .int .u64 s.f2.f0, .string s.f2.f1, .slice As s.f3.length cs] 29 (0, 0))))).2.2.1, (hq.out _ (below_step HBa.out (below_alloc (below_step (Below.refl wa.heap.size wa).drew hbq) (.cells #[.int .u64 s.f0, .string s.f1, .int .u64 s.f2.f0, .string s.f2.f1, .slice As s.f3.length cs] 29 (0, 0))))).2.2.2.1, (hq.out _ (below_step HBa.out (below_alloc (below_step (Below.refl wa.heap.size wa).drew hbq) (.cells #[.int .u64 s.f0, .string s.f1, .int .u64 s.f2.f0, .string s.f2.f1, .slice As s.f3.length cs] 29 (0, 0))))).2.2.2.2⟩, Kd.R_alloc (Kd.R_lower hRq (Nat.le_refl _)) _, heap_alloc_new _ _, fun k hk => Nat.ne_of_gt (Kd.R_lt hRq k hk), (below_alloc (below_step (Below.refl wa.heap.size wa).drew hbq) (.cells #[.int .u64 s.f0, .string s.f1, .int .u64 s.f2.f0, .string s.f2.f1, .slice As s.f3.length cs] 29 (0, 0)))⟩)
            · skip
              refine value_ (w1 := ?_) (v := ?_) (by rfl) rfl ?_ ?_
              rotate_left 2
              · go_simp
                constructor
                · rfl
                · rfl
              refine hK.out _ _ ⟨(hq.out _ (below_step HBa.out (below_drew (below_alloc (Below.refl wa.heap.size wa) (.cells #[.int .u64 s.f0, .string s.f1, .int .u64 s.f2.f0, .string s.f2.f1, .slice As s.f3.length cs] 29 (0, 0)))))).1, (hq.out _ (below_step HBa.out (below_drew (below_alloc (Below.refl wa.heap.size wa) (.cells #[.int .u64 s.f0, .string s.f1, .int .u64 s.f2.f0, .string s.f2.f1, .slice As s.f3.length cs] 29 (0, 0)))))).2.1, (hq.out _ (below_step HBa.out (below_drew (below_alloc (Below.refl wa.heap.size wa) (.cells #[.int .u64 s.f0, .string s.f1, .int .u64 s.f2.f0, .string s.f2.f1, .slice As s.f3.length cs] 29 (0, 0)))))).2.2.1, (hq.out _ (below_step HBa.out (below_drew (below_alloc (Below.refl wa.heap.size wa) (.cells #[.int .u64 s.f0, .string s.f1, .int .u64 s.f2.f0, .string s.f2.f1, .slice As s.f3.length cs] 29 (0, 0)))))).2.2.2.1, (hq.out _ (below_step HBa.out (below_drew (below_alloc (Below.refl wa.heap.size wa) (.cells #[.int .u64 s.f0, .string s.f1, .int .u64 s.f2.f0, .string s.f2.f1, .slice As s.f3.length cs] 29 (0, 0)))))).2.2.2.2⟩ (fun hHeld => ?_)
              clear hK K
              refine norm_ (a' := ?_) ?_ ?_
              rotate_left
              · show Act.put _ (some 50) _ = _
                simp only [Act.put, List.setIfInBounds_toArray, List.set_cons_zero, List.set_cons_succ, i64_w, i32_w]
                rfl
              refine one_ (i := 1) (N := some 47) #[true, true, true, true, true, false, false, false] rfl rfl (by kernel_rfl) (by decide) (fun K hK => ?_)
              refine goes_ Try.func36 (by kernel_rfl) rfl #[.slice A0 l0.length c0] (by rfl) rfl rfl (by simp only [List.map_toArray, List.map_cons, List.map_nil]; rfl) ?_
              with_reducible refine (clone_calls A0 c0 l0 w _ (below_step HBw.out (below_drew (below_alloc (Below.refl wa.heap.size wa) (.cells #[.int .u64 s.f0, .string s.f1, .int .u64 s.f2.f0, .string s.f2.f1, .slice As s.f3.length cs] 29 (0, 0))))) (C_kdAt hr0.out (below_step HBw.out (below_drew (below_alloc (Below.refl wa.heap.size wa) (.cells #[.int .u64 s.f0, .string s.f1, .int .u64 s.f2.f0, .string s.f2.f1, .slice As s.f3.length cs] 29 (0, 0)))))) hc0 hlen).mono ?_
              rintro e wq ⟨vq, rfl, hRq, hbq⟩
              refine ⟨_, rfl, ?_⟩
              refine hK.out _ _ ⟨(hq.out _ (below_step HBa.out (below_step (below_drew (below_alloc (Below.refl wa.heap.size wa) (.cells #[.int .u64 s.f0, .string s.f1, .int .u64 s.f2.f0, .string s.f2.f1, .slice As s.f3.length cs] 29 (0, 0)))) hbq))).1, (hq.out _ (below_step HBa.out (below_step (below_drew (below_alloc (Below.refl wa.heap.size wa) (.cells #[.int .u64 s.f0, .string s.f1, .int .u64 s.f2.f0, .string s.f2.f1, .slice As s.f3.length cs] 29 (0, 0)))) hbq))).2.1, (hq.out _ (below_step HBa.out (below_step (below_drew (below_alloc (Below.refl wa.heap.size wa) (.cells #[.int .u64 s.f0, .string s.f1, .int .u64 s.f2.f0, .string s.f2.f1, .slice As s.f3.length cs] 29 (0, 0)))) hbq))).2.2.1, (hq.out _ (below_step HBa.out (below_step (below_drew (below_alloc (Below.refl wa.heap.size wa) (.cells #[.int .u64 s.f0, .string s.f1, .int .u64 s.f2.f0, .string s.f2.f1, .slice As s.f3.length cs] 29 (0, 0)))) hbq))).2.2.2.1, (hq.out _ (below_step HBa.out (below_step (below_drew (below_alloc (Below.refl wa.heap.size wa) (.cells #[.int .u64 s.f0, .string s.f1, .int .u64 s.f2.f0, .string s.f2.f1, .slice As s.f3.length cs] 29 (0, 0)))) hbq))).2.2.2.2⟩ (fun hHeld => ?_)
              clear hK K
              refine norm_ (a' := ?_) ?_ ?_
              rotate_left
              · show Act.put _ (some 47) _ = _
                simp only [Act.put, List.setIfInBounds_toArray, List.set_cons_zero, List.set_cons_succ, i64_w, i32_w]
                rfl
              exact norm_ (by simp only [putAll, Act.put, List.setIfInBounds_toArray, List.set_cons_zero, List.set_cons_succ]) (hCont (vq, wa.heap.size) _ ⟨⟨(hq.out _ (below_step HBa.out (below_step (below_drew (below_alloc (Below.refl wa.heap.size wa) (.cells #[.int .u64 s.f0, .string s.f1, .int .u64 s.f2.f0, .string s.f2.f1, .slice As s.f3.length cs] 29 (0, 0)))) hbq))).1, (hq.out _ (below_step HBa.out (below_step (below_drew (below_alloc (Below.refl wa.heap.size wa) (.cells #[.int .u64 s.f0, .string s.f1, .int .u64 s.f2.f0, .string s.f2.f1, .slice As s.f3.length cs] 29 (0, 0)))) hbq))).2.1, (hq.out _ (below_step HBa.out (below_step (below_drew (below_alloc (Below.refl wa.heap.size wa) (.cells #[.int .u64 s.f0, .string s.f1, .int .u64 s.f2.f0, .string s.f2.f1, .slice As s.f3.length cs] 29 (0, 0)))) hbq))).2.2.1, (hq.out _ (below_step HBa.out (below_step (below_drew (below_alloc (Below.refl wa.heap.size wa) (.cells #[.int .u64 s.f0, .string s.f1, .int .u64 s.f2.f0, .string s.f2.f1, .slice As s.f3.length cs] 29 (0, 0)))) hbq))).2.2.2.1, (hq.out _ (below_step HBa.out (below_step (below_drew (below_alloc (Below.refl wa.heap.size wa) (.cells #[.int .u64 s.f0, .string s.f1, .int .u64 s.f2.f0, .string s.f2.f1, .slice As s.f3.length cs] 29 (0, 0)))) hbq))).2.2.2.2⟩, Kd.R_lower hRq (below_drew (below_alloc (Below.refl wa.heap.size wa) (.cells #[.int .u64 s.f0, .string s.f1, .int .u64 s.f2.f0, .string s.f2.f1, .slice As s.f3.length cs] 29 (0, 0)))).size, (hbq.block _ (blk_lt (heap_alloc_new wa _))).trans (heap_alloc_new wa _), fun k hk => Nat.ne_of_lt (Nat.lt_of_lt_of_le (blk_lt (heap_alloc_new wa _)) (Kd.R_base hRq k hk)), (below_step (below_drew (below_alloc (Below.refl wa.heap.size wa) (.cells #[.int .u64 s.f0, .string s.f1, .int .u64 s.f2.f0, .string s.f2.f1, .slice As s.f3.length cs] 29 (0, 0)))) hbq)⟩)
          rintro ⟨v, gb⟩ w5 ⟨hs5, hR5, hg5, hne5, hb5⟩
          have hHeld : w5.cell? ⟨w.heap.size, 0, none⟩ = some (.int .u64 s.f0) ∧ w5.cell? ⟨w.heap.size, 1, none⟩ = some (.string s.f1) ∧ w5.cell? ⟨w.heap.size, 2, none⟩ = some (.int .u64 s.f2.f0) ∧ w5.cell? ⟨w.heap.size, 3, none⟩ = some (.string s.f2.f1) ∧ w5.cell? ⟨w.heap.size, 4, none⟩ = some (.slice As s.f3.length cs) := hs5
          obtain ⟨A, c, rfl, hcc, hC5⟩ := Kd.R_reads hR5
          refine norm_ (a' := ?_) ?_ ?_
          rotate_left
          · simp only [putAll, Act.put, List.setIfInBounds_toArray, List.set_cons_zero, List.set_cons_succ]
            rfl
          refine last_ (i := 5) (N := some 51) #[true, true, true, true, true, true, false, false] rfl rfl (by kernel_rfl) (by decide) (fun K hK => ?_)
          refine goes_ Try.func35 (by kernel_rfl) rfl #[.slice A l0.length c, .int .i64 (i : Int), .slice (some ⟨gb, 0, none⟩) 1 1] (by rfl) rfl rfl (by simp only [List.map_toArray, List.map_cons, List.map_nil]; rfl) ?_
          with_reducible refine (insert_calls wa.heap.size A c l0 s i gb _ w w5 hR5 hb5.size hi0.out hlen hKs.out hne5 hg5).mono ?_
          rintro e w6 ⟨v6, rfl, hR6, hb6⟩
          refine ⟨_, rfl, ?_⟩
          refine hK.out _ _ ?_
          clear hK K
          refine norm_ (a' := ?_) ?_ ?_
          rotate_left
          · show Act.put _ (some 51) _ = _
            simp only [Act.put, List.setIfInBounds_toArray, List.set_cons_zero, List.set_cons_succ, i64_w, i32_w]
            rfl
          refine pure_ (i := 6) (N := some 4) (v := ?_) (a' := ?_) #[true, true, true, true, true, true, true, false] rfl rfl (by kernel_rfl) (fun _ _ _ h => h) (Or.inl ⟨by rfl, ?_⟩) ?_ ?_
          rotate_left
          · intro w'
            go_simp
            with_reducible rfl
          rotate_left
          · simp only [Act.put, List.setIfInBounds_toArray, List.set_cons_zero, List.set_cons_succ, i64_w, i32_w]
            rfl
          refine pure_ (i := 7) (N := some 5) (v := ?_) (a' := ?_) #[true, true, true, true, true, true, true, true] rfl rfl (by kernel_rfl) (fun _ _ _ h => h) (Or.inl ⟨by rfl, ?_⟩) ?_ ?_
          rotate_left
          · intro w'
            go_simp
            with_reducible rfl
          rotate_left
          · simp only [Act.put, List.setIfInBounds_toArray, List.set_cons_zero, List.set_cons_succ, i64_w, i32_w]
            rfl
          refine done_ (by kernel_rfl) ?_
          have hB6 := below_step HBw.out (hb5.trans hb6)
          obtain ⟨A', c', rfl, hcc6, hC6⟩ := Kd.R_reads hR6
          have hl1 : (l0.take i ++ s :: l0.drop i).length = l0.length + 1 := by have := hi0.out; rw [List.length_append, List.length_take, List.length_cons, List.length_drop]; omega
          rw [hl1] at hcc6 hC6
          replace hC6 := Aside0.mk (kdAt_C hC6 hB6)
          replace hl1 := Lib.hid hl1
          clear hR6 hR5 hC5 hne5 hg5 hs5 hHeld
          go_wp2
          go_ret2
          exact ⟨hfin.out _ _ ⟨A', c', by rw [← hl1.out]; rfl, hcc6, hC6.out⟩, hB6⟩
end Go.Proofs.Ytkomcddnfjbifaa.Q
