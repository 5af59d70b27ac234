/- relay.Push: a relay with a mail more; or why not.
   Conditions: the boxes are read as such, as in HRight; the text is no longer than a text may be. -/
import Derived.Test.YtbmfcikjhnnnbaaHStep
import Derived.Test.YtbmfcikjhnnnbaaHLike
import Derived.Test.YtbmfcikjhnnnbaaHInsert
import Derived.Test.YtbmfcikjhnnnbaaHField
import Derived.Test.YtbmfcikjhnnnbaaHBlank
namespace Go.Proofs.Ytbmfcikjhnnnbaa.Q
open Go.RowKit Go.Proofs.YtbmfcikjhnnnbaaW.PrintWords Go.Proofs.YtbmfcikjhnnnbaaW.PrintLast Go.Proofs.YtbmfcikjhnnnbaaW.PrintMore
set_option linter.unusedVariables false
set_option linter.unusedSimpArgs false
abbrev bHPush0 : Array Bool := #[false, false, false, false, false, false, false, false, false, false, false, false, false, false]
abbrev bHPush1 : Array Bool := #[true, false, false, false, false, false, false, false, false, false, false, false, false, false]
abbrev bHPush2 : Array Bool := #[true, true, false, false, false, false, false, false, false, false, false, false, false, false]
abbrev bHPush3 : Array Bool := #[true, true, false, true, false, false, false, false, false, false, false, false, false, false]
abbrev bHPush4 : Array Bool := #[true, true, false, true, false, false, true, false, false, false, false, false, false, false]
abbrev bHPush5 : Array Bool := #[true, true, false, true, true, false, true, false, false, false, false, false, false, false]
abbrev bHPush6 : Array Bool := #[true, true, false, true, true, true, true, false, false, false, false, false, false, false]
abbrev bHPush7 : Array Bool := #[true, true, false, true, true, true, true, true, false, false, false, false, false, false]
abbrev bHPush8 : Array Bool := #[true, true, false, true, true, true, true, true, true, false, false, false, false, false]
abbrev bHPush9 : Array Bool := #[true, true, true, true, true, true, true, true, true, true, true, true, true, false]
abbrev bHPush10 : Array Bool := #[true, true, true, true, true, true, true, true, true, false, false, false, false, false]
abbrev bHPush11 : Array Bool := #[true, true, false, true, true, true, true, true, true, true, false, false, false, false]
abbrev bHPush12 : Array Bool := #[true, true, false, true, true, true, true, true, true, false, false, false, true, false]
abbrev bHPush13 : Array Bool := #[true, true, true, true, true, true, true, true, true, true, false, false, false, false]
abbrev bHPush14 : Array Bool := #[true, true, true, true, true, true, true, true, true, false, false, false, true, false]
abbrev bHPush15 : Array Bool := #[true, true, true, true, true, true, true, true, true, true, true, false, false, false]
abbrev bHPush16 : Array Bool := #[true, true, true, true, true, true, true, true, true, true, false, false, true, false]
abbrev bHPush17 : Array Bool := #[true, true, true, true, true, true, true, true, true, true, true, true, false, false]
abbrev bHPush18 : Array Bool := #[true, true, true, true, true, true, true, true, true, true, true, false, true, false]
abbrev bHPush19 : Array Bool := #[true, true, false, true, true, true, true, true, true, true, false, false, true, false]
abbrev bHPush20 : Array Bool := #[true, true, true, true, true, true, true, true, true, true, true, true, true, true]

theorem al_new {b : Nat} {w W : World} (h : Below b w W) (o : Obj) : (W.alloc o).heap[W.heap.size]? = some o := heap_alloc_new W o
theorem al_old {b : Nat} {w W : World} (h : Below b w W) (o : Obj) {k : Nat} {x : Obj} (hk : W.heap[k]? = some x) : (W.alloc o).heap[k]? = some x := ((below_alloc (Below.refl _ _) o).block k (blk_lt hk)).trans hk
theorem alloc2 (w : World) (a b : Obj) : ((w.alloc a).alloc b).heap[w.heap.size]? = some a ∧ ((w.alloc a).alloc b).heap[w.heap.size + 1]? = some b ∧ Below w.heap.size w ((w.alloc a).alloc b) := by
  have hs : (w.alloc a).heap.size = w.heap.size + 1 := by simp
  refine ⟨((below_alloc (Below.refl _ _) b).block _ (blk_lt (heap_alloc_new w a))).trans (heap_alloc_new w a), ?_, below_alloc (below_alloc (Below.refl _ _) a) b⟩
  rw [← hs]
  exact heap_alloc_new _ _
theorem set_grown (w : World) (p : Addr) (v : Value) : w.grownBy (w.setCell p v) (some p.block) := ⟨rfl, rfl, rfl, by simp [World.setCell], fun k _ hk => Below.heap_setCell w p v k (fun e => hk (by rw [e]))⟩
theorem one_C54 {W : World} {m : S54} {g : Nat} (hv : W.heap[g]? = some (.cells #[.int .u64 m.f0, .string m.f1, .int .u64 m.f2] 54 (0, 0))) : k54.C W (some ⟨g, 0, none⟩) 1 [m] := by
  refine ⟨rfl, by omega, fun _ => ⟨_, rfl, fun j p hj => ?_⟩⟩
  obtain ⟨rfl, rfl⟩ : j = 0 ∧ p = m := by
    rcases j with _ | j
    · exact ⟨rfl, by simpa using hj.symm⟩
    · simp at hj
  refine ⟨_, rfl, k54_mk _ _, fun i u hu => ?_⟩
  rw [Addr.add_lit, show 0 + (0 * k54.sz + i) = i by omega, blk_cell hv]
  simpa using hu
abbrev zerR : Value := .agg #[.slice none 0 0, .int .u64 0, .int .u64 0]
/-- What relay.Push answers. -/
def PushE (l : List S57) (now next u : Int) (s : ByteArray) (e : Ending) (w' : World) : Prop :=
  (relB l now next = false ∧ e = .returned (.tuple #[zerR, .int .i64 1])) ∨
  (relB l now next = true ∧ ∃ (i : Nat) (is : Bool) (old : List S54), foundR l u i is ∧ old = (if is then (rd_T57 l (i : Int)).f1 else []) ∧
    ((1400 < s.size ∧ e = .returned (.tuple #[zerR, .int .i64 2])) ∨
     (s.size ≤ 1400 ∧ hasB old s = true ∧ e = .returned (.tuple #[zerR, .int .i64 7])) ∨
     (s.size ≤ 1400 ∧ hasB old s = false ∧ (old.length = 16 ∨ (is = false ∧ l.length = 8)) ∧ e = .returned (.tuple #[zerR, .int .i64 6])) ∨
     (s.size ≤ 1400 ∧ hasB old s = false ∧ ¬ (old.length = 16 ∨ (is = false ∧ l.length = 8)) ∧ next = 4611686018427387903 ∧ e = .returned (.tuple #[zerR, .int .i64 1])) ∨
     (s.size ≤ 1400 ∧ hasB old s = false ∧ ¬ (old.length = 16 ∨ (is = false ∧ l.length = 8)) ∧ next ≠ 4611686018427387903 ∧ ∃ (lp : List S57) (A : Option Addr) (c : Nat),
       lp = (if is then l.set i { f0 := u, f1 := old ++ [{ f0 := next, f1 := s, f2 := now }] } else l.take i ++ { f0 := u, f1 := old ++ [{ f0 := next, f1 := s, f2 := now }] } :: l.drop i) ∧
       e = .returned (.tuple #[rv A lp.length c now (next + 1), .int .i64 0]) ∧ lp.length ≤ c ∧ k57.C w' A lp.length lp)))
theorem rel_next {l : List S57} {now next : Int} (h : relB l now next = true) : next < 4611686018427387904 := by
  unfold relB at h
  rw [Bool.and_eq_true, Bool.and_eq_true, Bool.and_eq_true] at h
  exact of_decide_eq_true h.1.2.2
set_option maxHeartbeats 8000000 in
set_option maxRecDepth 100000 in
theorem push_callsS (S : Nat → Prop) (A0 : Option Addr) (c0 : Nat) (l0 : List S57) (now next u : Int) (s : ByteArray) (w : World) (hS : ∀ k, S k → k < w.heap.size) (hrS : Kd.C k57 (bs S w) A0 l0.length l0) (hc0 : l0.length ≤ c0) (hlen : l0.length ≤ 1000000) (hwf : wfB l0) (hnow : 0 ≤ now ∧ now ≤ 18446744073709551615) (hnext : 0 ≤ next) :
    Calls Try.prog 9 #[rv A0 l0.length c0 now next, .int .u64 u, .string s] w fun e w' => PushE l0 now next u s e (bs S w') ∧ Below w.heap.size w w' := by
  have hr0 : Kd.C k57 w A0 l0.length l0 := sees_B57 bs_sees hrS
  replace hS := Lib.hid hS
  replace hrS := Aside0.mk hrS
  obtain ⟨w1, hw1⟩ : ∃ w1, w.alloc (.cells #[.slice A0 l0.length c0, .int .u64 now, .int .u64 next] 25 (0, 0)) = w1 := ⟨_, rfl⟩
  have hb1 : Below w.heap.size w w1 := by rw [← hw1]; exact below_alloc (Below.refl _ _) _
  have hs1 : w1.heap.size = w.heap.size + 1 := by rw [← hw1]; simp
  have hK1 : w1.heap[w.heap.size]? = some (.cells #[.slice A0 l0.length c0, .int .u64 now, .int .u64 next] 25 (0, 0)) := by rw [← hw1]; exact heap_alloc_new _ _
  obtain ⟨w2, hw2⟩ : ∃ w2, w1.alloc (.cells #[.string s] 9 (0, 0)) = w2 := ⟨_, rfl⟩
  have hb2 : Below w1.heap.size w1 w2 := by rw [← hw2]; exact below_alloc (Below.refl _ _) _
  have hs2 : w2.heap.size = w.heap.size + 2 := by rw [← hw2]; simp [hs1]
  have hK2 : w2.heap[w.heap.size + 1]? = some (.cells #[.string s] 9 (0, 0)) := by rw [← hs1, ← hw2]; exact heap_alloc_new _ _
  obtain ⟨w3, hw3⟩ : ∃ w3, w2.alloc (.cells #[.slice none 0 0, .int .u64 0, .int .u64 0] 25 (0, 0)) = w3 := ⟨_, rfl⟩
  have hb3 : Below w2.heap.size w2 w3 := by rw [← hw3]; exact below_alloc (Below.refl _ _) _
  have hK3 : w3.heap[w2.heap.size]? = some (.cells #[.slice none 0 0, .int .u64 0, .int .u64 0] 25 (0, 0)) := by rw [← hw3]; exact heap_alloc_new _ _
  have hws : w.heap.size + 2 ≤ w2.heap.size := by omega
  have hK23 := (hb3.block _ (blk_lt hK2)).trans hK2
  have hK13 := (hb3.block _ (by have := blk_lt hK1; omega)).trans ((hb2.block _ (blk_lt hK1)).trans hK1)
  have hB3 := Aside0.mk (below_step (below_step hb1 hb2) hb3)
  have hr3 := Aside0.mk (Kd.C_below hr0 hB3.out)
  have hq : Hid (∀ W, Below w3.heap.size w3 W → W.cell? ⟨w.heap.size, 0, none⟩ = some (.slice A0 l0.length c0) ∧ W.cell? ⟨w.heap.size, 1, none⟩ = some (.int .u64 now) ∧ W.cell? ⟨w.heap.size, 2, none⟩ = some (.int .u64 next) ∧ W.cell? ⟨w.heap.size + 1, 0, none⟩ = some (.string s)) := Lib.hid fun W hW => by
    obtain ⟨a, b, c⟩ := box3 ((hW.block _ (blk_lt hK13)).trans hK13)
    exact ⟨a, b, c, (blk_cell ((hW.block _ (blk_lt hK23)).trans hK23) 0).trans rfl⟩
  obtain ⟨z0, z1, z2, z3⟩ := hq.out _ (Below.refl _ w3)
  have hrc := Aside0.mk (right_calls A0 c0 l0 now next w3 hr3.out hwf hnow)
  replace hs2 := Lib.hid hs2
  clear hb1 hb2 hb3 hK1 hK2
  go_enter Try.func9, Try.ntmps9
  go_wp2_with fail
  refine hrc.out.mono ?_; rintro e_ w4 ⟨rfl, hb4⟩
  clear hrc z0 z1 z2 z3
  have hK34 := (hb4.block _ (blk_lt hK3)).trans hK3
  cases hR : relB l0 now next with
  | false =>
    have hfin : ∀ W, Hid (PushE l0 now next u s (.returned (.tuple #[zerR, .int .i64 1])) W) := fun W => Lib.hid (.inl ⟨hR, rfl⟩)
    go_wp2_with ((with_reducible refine gate_store (t := 25) (p := 6) rfl ?_); go_loud (refine wpList_storeBox rfl rfl 25 (.tmp 6) (.tmp 15) rfl zerR [.slice none 0 0, .int .u64 0, .int .u64 0] rfl rfl rfl (by kernel_rfl) (by simp [Value.oneCell']) hK34 rfl ?_); intro wz hKz hgz hsz)
    have hBz : Below w.heap.size w wz := (below_step hB3.out hb4).grown hgz (below_step hB3.out hb4).size (fun k hk => by cases hk; omega)
    obtain ⟨y0, y1, y2⟩ := box3 hKz
    refine bodyPost_ret (v := .tuple #[zerR, .int .i64 1]) (by simp [results, Try.results9, go_sem, y0, y1, y2]) rfl ?_
    exact ⟨(hfin _).out, hBz⟩
  | true =>
    obtain ⟨z0, z1, z2, z3⟩ := hq.out _ hb4
    have hnx := rel_next hR
    have hfc := Aside0.mk (find_calls A0 c0 l0 now next u w4 (Kd.C_below hr3.out hb4) hc0 hlen)
    go_wp2_with fail
    refine hfc.out.mono ?_; rintro e_ w5 ⟨⟨i, is, rfl, hf⟩, hb5⟩
    clear hfc z0 z1 z2 z3 hK34
    have hB5 := Aside0.mk (below_step hb4 hb5)
    have hK35 := (hB5.out.block _ (blk_lt hK3)).trans hK3
    obtain ⟨mm, hmm⟩ : ∃ mm : S54, mm = { f0 := next, f1 := s, f2 := now } := ⟨_, rfl⟩
    cases is with
    | false =>
      obtain ⟨Ao, co, old, hold, hAo, hco, hCo⟩ : ∃ (Ao : Option Addr) (co : Nat) (old : List S54), old = [] ∧ (Ao = none ∧ co = 0) ∧ old.length ≤ co ∧ k54.C w5 Ao old.length old := ⟨none, 0, [], rfl, ⟨rfl, rfl⟩, Nat.le_refl _, Kd.C_nil _ _⟩
      have hw6 : old.length ≤ 1000000 := by rw [hold]; simp
      obtain ⟨N, hN⟩ : ∃ N, old.length = N := ⟨_, rfl⟩
      have hN6 : N ≤ 1000000 := by rw [← hN]; exact hw6
      rw [hN] at hco hCo
      have hEnd := Lib.hid (fun e W h => (show PushE l0 now next u s e W from .inr ⟨hR, i, false, old, hf, (by rw [if_neg (by decide)]; exact hold), h⟩))
      have hq5 := hq.out _ hB5.out
      obtain ⟨z0, z1, z2, z3⟩ := hq5
      have hK23' := (hB5.out.block _ (blk_lt hK23)).trans hK23
      have hcon := containsM_calls Ao co old (w.heap.size + 1) s w5 (by rw [hN]; exact hCo) (by rw [hN]; exact hco) (by rw [hN]; exact hN6) hK23'
      rw [hN] at hcon
      replace hcon := Aside0.mk hcon
      replace hf := Lib.hid hf
      replace hCo := Aside0.mk hCo
      replace hold := Lib.hid hold
      replace hmm := Lib.hid hmm
      have hN' := hN
      replace hN := Lib.hid hN
      obtain ⟨hA1, hA2⟩ := hAo
      subst hA1 hA2
      have hN0 : N = 0 := by omega
      subst hN0
      clear hN' hw6 hK23'
      by_cases hz : s.size ≤ 1400
      · have hzi : ¬ ((1400 : Int) < (s.size : Int)) := by omega
        have hzd : decide ((1400 : Int) < (s.size : Int)) = false := decide_eq_false hzi
        have hzn : decide (1400 < s.size) = false := decide_eq_false (by omega)
        go_wp2_with fail
        refine hcon.out.mono ?_; rintro e_ w7 ⟨rfl, hb7⟩
        have HB7 := Aside0.mk (below_step hB5.out hb7)
        have hK37 := (HB7.out.block _ (blk_lt hK3)).trans hK3
        clear hcon z0 z1 z2 z3
        obtain ⟨z0, z1, z2, z3⟩ := hq.out _ HB7.out
        cases hh : hasB old s with
        | true =>
          have hfin : ∀ W, Hid (PushE l0 now next u s (.returned (.tuple #[zerR, .int .i64 7])) W) := fun W => Lib.hid (hEnd.out _ W (.inr (.inl ⟨hz, hh, rfl⟩)))
          go_wp2_with ((with_reducible refine gate_store (t := 25) (p := 6) rfl ?_); go_loud (refine wpList_storeBox rfl rfl 25 (.tmp 6) (.tmp 38) rfl zerR [.slice none 0 0, .int .u64 0, .int .u64 0] rfl rfl rfl (by kernel_rfl) (by simp [Value.oneCell']) hK37 rfl ?_); intro wz hKz hgz hsz)
          have hBz : Below w.heap.size w wz := (below_step hB3.out HB7.out).grown hgz (below_step hB3.out HB7.out).size (fun k hk => by cases hk; omega)
          obtain ⟨y0, y1, y2⟩ := box3 hKz
          refine bodyPost_ret (v := .tuple #[zerR, .int .i64 7]) (by simp [results, Try.results9, go_sem, y0, y1, y2]) rfl ?_
          exact ⟨(hfin _).out, hBz⟩
        | false =>
          by_cases h16 : l0.length = 8
          · have hfin : ∀ W, Hid (PushE l0 now next u s (.returned (.tuple #[zerR, .int .i64 6])) W) := fun W => Lib.hid (hEnd.out _ W (.inr (.inr (.inl ⟨hz, hh, .inr ⟨by trivial, h16⟩, rfl⟩))))
            have h16i : (l0.length : Int) = 8 := by omega
            go_wp2_with ((with_reducible refine gate_store (t := 25) (p := 6) rfl ?_); go_loud (refine wpList_storeBox rfl rfl 25 (.tmp 6) (.tmp 53) rfl zerR [.slice none 0 0, .int .u64 0, .int .u64 0] rfl rfl rfl (by kernel_rfl) (by simp [Value.oneCell']) hK37 rfl ?_); intro wz hKz hgz hsz)
            have hBz : Below w.heap.size w wz := (below_step hB3.out HB7.out).grown hgz (below_step hB3.out HB7.out).size (fun k hk => by cases hk; omega)
            obtain ⟨y0, y1, y2⟩ := box3 hKz
            refine bodyPost_ret (v := .tuple #[zerR, .int .i64 6]) (by simp [results, Try.results9, go_sem, y0, y1, y2]) rfl ?_
            exact ⟨(hfin _).out, hBz⟩
          · have h16i : ¬ ((l0.length : Int) = 8) := by omega
            have h16b : ((l0.length : Int) == 8) = false := beq_eq_false_iff_ne.2 h16i
            have hnf : ¬ (old.length = 16 ∨ (false = false ∧ l0.length = 8)) := by
              rw [hN.out]
              rintro (h | ⟨_, h⟩)
              · omega
              · exact h16 h
            by_cases hx : next = 4611686018427387903
            · have hfin : ∀ W, Hid (PushE l0 now next u s (.returned (.tuple #[zerR, .int .i64 1])) W) := fun W => Lib.hid (hEnd.out _ W (.inr (.inr (.inr (.inl ⟨hz, hh, by simpa using hnf, hx, rfl⟩)))))
              replace hnf := Lib.hid hnf
              go_wp2_with ((with_reducible refine gate_store (t := 25) (p := 6) rfl ?_); go_loud (refine wpList_storeBox rfl rfl 25 (.tmp 6) (.tmp 58) rfl zerR [.slice none 0 0, .int .u64 0, .int .u64 0] rfl rfl rfl (by kernel_rfl) (by simp [Value.oneCell']) hK37 rfl ?_); intro wz hKz hgz hsz)
              have hBz : Below w.heap.size w wz := (below_step hB3.out HB7.out).grown hgz (below_step hB3.out HB7.out).size (fun k hk => by cases hk; omega)
              obtain ⟨y0, y1, y2⟩ := box3 hKz
              refine bodyPost_ret (v := .tuple #[zerR, .int .i64 1]) (by simp [results, Try.results9, go_sem, y0, y1, y2]) rfl ?_
              exact ⟨(hfin _).out, hBz⟩
            · have hxb : (next == 4611686018427387903) = false := beq_eq_false_iff_ne.2 hx
              have hCold := Aside0.mk (Kd.C_below hCo.out hb7)
              have hclip := Lib.hid (fun W => by have := clip_calls none 0 old W (by rw [hN.out]; exact hco); rw [hN.out] at this; exact this)
              have happ : Hid (∀ (g : Nat) {W : World}, Below w7.heap.size w7 W → W.heap[g]? = some (.cells #[.int .u64 next, .string s, .int .u64 now] 54 (0, 0)) → ∃ A1 c1 w1, (Builtin.append_ #[39, 39] 39 #[.slice none 0 0, .slice (some ⟨g, 0, none⟩) 1 1]).run Try.prog W = .ok (.slice A1 1 c1) w1 ∧ Kd.R k54 54 w1 W.heap.size (fun _ => True) (.slice A1 1 c1) (old ++ [mm]) ∧ Below W.heap.size W w1) := Lib.hid fun g W hW hg => by
                have := run_append_clip k54 (W := W) 39 39 54 (.agg #[(.int .u64 0), (.string ⟨#[]⟩), (.int .u64 0)]) 32 Try.underlying39 info54 rfl (by decide) (by omega) none old [mm] ⟨g, 0, none⟩ 1 (by rw [hN.out]; exact Kd.C_below hCold.out hW) (one_C54 (m := mm) (by rw [hmm.out]; exact hg)) (by simp) (fun w1 base ok x cs h => by obtain rfl := k54_open h; exact k54_mkM _ _ _ _) (by rw [hN.out]; first | (simp only [List.length_singleton]; omega) | (simp; done))
                obtain ⟨v1, w1, h1, h2, h3⟩ := this
                obtain ⟨A1, c1, rfl, -, -⟩ := Kd.R_reads h2
                rw [List.length_append, List.length_singleton, hN.out] at h1 h2
                exact ⟨A1, c1, w1, h1, h2, h3⟩
              replace hnf := Lib.hid hnf
              clear hK37
              go_wp2
              refine start_ (n := 14) (S := fun w' => w'.cell? ⟨w.heap.size, 1, none⟩ = some (.int .u64 now) ∧ w'.cell? ⟨w.heap.size, 2, none⟩ = some (.int .u64 next) ∧ w'.cell? ⟨w.heap.size + 1, 0, none⟩ = some (.string s)) (ds := [13]) bHPush0 (by kernel_rfl) rfl rfl ⟨(hq.out _ (below_step HB7.out (Below.refl w7.heap.size w7).drew)).2.1, (hq.out _ (below_step HB7.out (Below.refl w7.heap.size w7).drew)).2.2.1, (hq.out _ (below_step HB7.out (Below.refl w7.heap.size w7).drew)).2.2.2⟩ (fun hHeld => ?_)
              refine p_ 0 (some 59) bHPush1 ?_
              refine p_ 1 (some 60) bHPush2 ?_
              refine p_ 3 (some 62) bHPush3 ?_
              refine p_ 6 (some 65) bHPush4 ?_
              refine t_ 4 (some 63) bHPush5 hHeld (hv := by rintro w' ⟨s0, s1, s2⟩; go_simp; with_reducible rfl) (h := ?_)
              refine t_ 5 (some 64) bHPush6 hHeld (hv := by rintro w' ⟨s0, s1, s2⟩; go_simp; with_reducible rfl) (h := ?_)
              refine t_ 7 (some 66) bHPush7 hHeld (hv := by rintro w' ⟨s0, s1, s2⟩; go_simp; with_reducible rfl) (h := ?_)
              refine p_ 8 (some 67) bHPush8 ?_
              refine join_ (σ := Option Addr × Nat × Nat × Nat) 1 bHPush9 (fun s_ => [(61, .slice none 0 0), (68, .slice (some ⟨s_.2.2.1, 0, none⟩) 1 1), (69, .slice s_.1 1 s_.2.1), (70, .agg #[.int .u64 u, .slice s_.1 1 s_.2.1]), (11, .pointer (some ⟨s_.2.2.2, 0, none⟩))]) (fun s_ w' => (w'.cell? ⟨w.heap.size, 1, none⟩ = some (.int .u64 now) ∧ w'.cell? ⟨w.heap.size, 2, none⟩ = some (.int .u64 next) ∧ w'.cell? ⟨w.heap.size + 1, 0, none⟩ = some (.string s)) ∧ Kd.R k54 54 w' w7.heap.size (fun _ => True) (.slice s_.1 1 s_.2.1) (old ++ [mm]) ∧ w'.heap[s_.2.2.2]? = some (.cells #[.int .u64 0, .slice none 0 0] 57 (0, 0)) ∧ (∀ k, (Value.slice s_.1 1 s_.2.1).ownBlock = some k → k ≠ s_.2.2.2) ∧ w7.heap.size ≤ s_.2.2.2 ∧ Below w7.heap.size w7 w') ?_ ?_
              rotate_left
              · intro hCont
                refine three_ (i := 2) (j := 9) (k := 12) (Ni := some 61) (Nj := some 68) (Nk := some 11) bHPush10 bHPush11 bHPush12 rfl rfl rfl rfl rfl rfl (by kernel_rfl) (by decide) (by decide) (by decide) (fun K hK => ?_) (fun K hK => ?_) (fun K hK => ?_)
                · skip
                  refine goes_ Try.func28 (by kernel_rfl) rfl #[.slice none 0 0] (by rfl) rfl rfl (by simp only [List.map_toArray, List.map_cons, List.map_nil]; rfl) ?_
                  with_reducible refine (hclip.out _).mono ?_
                  rintro e wq ⟨rfl, rfl⟩
                  refine ⟨_, rfl, ?_⟩
                  have hbc := (Below.refl w7.heap.size w7).drew
                  refine hK.out _ _ ⟨(hq.out _ (below_step HB7.out hbc)).2.1, (hq.out _ (below_step HB7.out hbc)).2.2.1, (hq.out _ (below_step HB7.out hbc)).2.2.2⟩ (fun hHeld => ?_)
                  clear hK K
                  refine norm_ (a' := ?_) ?_ ?_
                  rotate_left
                  · show Act.put _ (some 61) _ = _
                    simp only [Act.put, List.setIfInBounds_toArray, List.set_cons_zero, List.set_cons_succ, i64_w, i32_w]
                    rfl
                  refine two_ (i := 9) (j := 12) (Ni := some 68) (Nj := some 11) bHPush13 bHPush14 rfl rfl rfl rfl (by kernel_rfl) (by decide) (by decide) (fun K hK => ?_) (fun K hK => ?_)
                  · skip
                    refine value_ (w1 := ?_) (v := ?_) (by rfl) rfl ?_ ?_
                    rotate_left 2
                    · go_simp
                      constructor
                      · rfl
                      · rfl
                    have hlit := heap_alloc_new w7.drew (.cells #[.int .u64 next, .string s, .int .u64 now] 54 (0, 0))
                    have hbc := below_alloc hbc (.cells #[.int .u64 next, .string s, .int .u64 now] 54 (0, 0))
                    refine hK.out _ _ ⟨(hq.out _ (below_step HB7.out hbc)).2.1, (hq.out _ (below_step HB7.out hbc)).2.2.1, (hq.out _ (below_step HB7.out hbc)).2.2.2⟩ (fun hHeld => ?_)
                    clear hK K
                    refine norm_ (a' := ?_) ?_ ?_
                    rotate_left
                    · show Act.put _ (some 68) _ = _
                      simp only [Act.put, List.setIfInBounds_toArray, List.set_cons_zero, List.set_cons_succ, i64_w, i32_w]
                      rfl
                    refine two_ (i := 10) (j := 12) (Ni := some 69) (Nj := some 11) bHPush15 bHPush16 rfl rfl rfl rfl (by kernel_rfl) (by decide) (by decide) (fun K hK => ?_) (fun K hK => ?_)
                    · skip
                      obtain ⟨A8, c8, w6, hrun, hR, hbx⟩ := happ.out (w7.heap.size) hbc hlit
                      refine clip_step (by rfl) (.tmp 61) (.tmp 68) rfl (by rfl) (by rfl) hrun ?_
                      clear hrun
                      have hR := Kd.R_lower hR hbc.size
                      have hbc := Below.trans hbc (Below.mono hbx hbc.size)
                      refine hK.out _ _ ⟨(hq.out _ (below_step HB7.out hbc)).2.1, (hq.out _ (below_step HB7.out hbc)).2.2.1, (hq.out _ (below_step HB7.out hbc)).2.2.2⟩ (fun hHeld => ?_)
                      clear hK K
                      refine norm_ (a' := ?_) ?_ ?_
                      rotate_left
                      · show Act.put _ (some 69) _ = _
                        simp only [Act.put, List.setIfInBounds_toArray, List.set_cons_zero, List.set_cons_succ, i64_w, i32_w]
                        rfl
                      refine p_ 11 (some 70) bHPush17 ?_
                      refine one_ (i := 12) (N := some 11) bHPush9 rfl rfl (by kernel_rfl) (by decide) (fun K hK => ?_)
                      refine value_ (w1 := ?_) (v := ?_) (by rfl) rfl ?_ ?_
                      rotate_left 2
                      · go_simp
                        constructor
                        · rfl
                        · rfl
                      have hne := fun k hk => Nat.ne_of_lt (Kd.R_lt hR k hk)
                      have hR := Kd.R_alloc hR (.cells #[.int .u64 0, .slice none 0 0] 57 (0, 0))
                      have hge := hbc.size
                      have hal := al_new hbc (.cells #[.int .u64 0, .slice none 0 0] 57 (0, 0))
                      have hbc := below_alloc hbc (.cells #[.int .u64 0, .slice none 0 0] 57 (0, 0))
                      refine hK.out _ _ ⟨(hq.out _ (below_step HB7.out hbc)).2.1, (hq.out _ (below_step HB7.out hbc)).2.2.1, (hq.out _ (below_step HB7.out hbc)).2.2.2⟩ (fun hHeld => ?_)
                      clear hK K
                      refine norm_ (a' := ?_) ?_ ?_
                      rotate_left
                      · show Act.put _ (some 11) _ = _
                        simp only [Act.put, List.setIfInBounds_toArray, List.set_cons_zero, List.set_cons_succ, i64_w, i32_w]
                        rfl
                      exact norm_ (by simp only [putAll, Act.put, List.setIfInBounds_toArray, List.set_cons_zero, List.set_cons_succ]) (hCont (A8, c8, w7.heap.size, w6.heap.size) _ ⟨⟨(hq.out _ (below_step HB7.out hbc)).2.1, (hq.out _ (below_step HB7.out hbc)).2.2.1, (hq.out _ (below_step HB7.out hbc)).2.2.2⟩, hR, hal, hne, hge, hbc⟩)
                    · skip
                      refine value_ (w1 := ?_) (v := ?_) (by rfl) rfl ?_ ?_
                      rotate_left 2
                      · go_simp
                        constructor
                        · rfl
                        · rfl
                      have hlit := al_old hbc (.cells #[.int .u64 0, .slice none 0 0] 57 (0, 0)) hlit
                      have hge : w7.heap.size ≤ w7.heap.size + 1 := Nat.le_succ _
                      have hal := (alloc2 w7.drew (.cells #[.int .u64 next, .string s, .int .u64 now] 54 (0, 0)) (.cells #[.int .u64 0, .slice none 0 0] 57 (0, 0))).2.1
                      have hbc := below_alloc hbc (.cells #[.int .u64 0, .slice none 0 0] 57 (0, 0))
                      refine hK.out _ _ ⟨(hq.out _ (below_step HB7.out hbc)).2.1, (hq.out _ (below_step HB7.out hbc)).2.2.1, (hq.out _ (below_step HB7.out hbc)).2.2.2⟩ (fun hHeld => ?_)
                      clear hK K
                      refine norm_ (a' := ?_) ?_ ?_
                      rotate_left
                      · show Act.put _ (some 11) _ = _
                        simp only [Act.put, List.setIfInBounds_toArray, List.set_cons_zero, List.set_cons_succ, i64_w, i32_w]
                        rfl
                      refine one_ (i := 10) (N := some 69) bHPush18 rfl rfl (by kernel_rfl) (by decide) (fun K hK => ?_)
                      obtain ⟨A8, c8, w6, hrun, hR, hbx⟩ := happ.out (w7.heap.size) hbc hlit
                      refine clip_step (by rfl) (.tmp 61) (.tmp 68) rfl (by rfl) (by rfl) hrun ?_
                      clear hrun
                      have hne := fun k hk => (Nat.ne_of_gt (Nat.lt_of_lt_of_le (blk_lt hal) (Kd.R_base hR k hk)))
                      have hal := (hbx.block _ (blk_lt hal)).trans hal
                      have hR := Kd.R_lower hR hbc.size
                      have hbc := Below.trans hbc (Below.mono hbx hbc.size)
                      refine hK.out _ _ ⟨(hq.out _ (below_step HB7.out hbc)).2.1, (hq.out _ (below_step HB7.out hbc)).2.2.1, (hq.out _ (below_step HB7.out hbc)).2.2.2⟩ (fun hHeld => ?_)
                      clear hK K
                      refine norm_ (a' := ?_) ?_ ?_
                      rotate_left
                      · show Act.put _ (some 69) _ = _
                        simp only [Act.put, List.setIfInBounds_toArray, List.set_cons_zero, List.set_cons_succ, i64_w, i32_w]
                        rfl
                      refine p_ 11 (some 70) bHPush9 ?_
                      exact norm_ (by simp only [putAll, Act.put, List.setIfInBounds_toArray, List.set_cons_zero, List.set_cons_succ]) (hCont (A8, c8, w7.heap.size, w7.heap.size + 1) _ ⟨⟨(hq.out _ (below_step HB7.out hbc)).2.1, (hq.out _ (below_step HB7.out hbc)).2.2.1, (hq.out _ (below_step HB7.out hbc)).2.2.2⟩, hR, hal, hne, hge, hbc⟩)
                  · skip
                    refine value_ (w1 := ?_) (v := ?_) (by rfl) rfl ?_ ?_
                    rotate_left 2
                    · go_simp
                      constructor
                      · rfl
                      · rfl
                    have hge := Nat.le_refl w7.heap.size
                    have hal := heap_alloc_new w7.drew (.cells #[.int .u64 0, .slice none 0 0] 57 (0, 0))
                    have hbc := below_alloc hbc (.cells #[.int .u64 0, .slice none 0 0] 57 (0, 0))
                    refine hK.out _ _ ⟨(hq.out _ (below_step HB7.out hbc)).2.1, (hq.out _ (below_step HB7.out hbc)).2.2.1, (hq.out _ (below_step HB7.out hbc)).2.2.2⟩ (fun hHeld => ?_)
                    clear hK K
                    refine norm_ (a' := ?_) ?_ ?_
                    rotate_left
                    · show Act.put _ (some 11) _ = _
                      simp only [Act.put, List.setIfInBounds_toArray, List.set_cons_zero, List.set_cons_succ, i64_w, i32_w]
                      rfl
                    refine one_ (i := 9) (N := some 68) bHPush16 rfl rfl (by kernel_rfl) (by decide) (fun K hK => ?_)
                    refine value_ (w1 := ?_) (v := ?_) (by rfl) rfl ?_ ?_
                    rotate_left 2
                    · go_simp
                      constructor
                      · rfl
                      · rfl
                    have hal := al_old hbc (.cells #[.int .u64 next, .string s, .int .u64 now] 54 (0, 0)) hal
                    have hlit := (alloc2 w7.drew (.cells #[.int .u64 0, .slice none 0 0] 57 (0, 0)) (.cells #[.int .u64 next, .string s, .int .u64 now] 54 (0, 0))).2.1
                    have hbc := below_alloc hbc (.cells #[.int .u64 next, .string s, .int .u64 now] 54 (0, 0))
                    refine hK.out _ _ ⟨(hq.out _ (below_step HB7.out hbc)).2.1, (hq.out _ (below_step HB7.out hbc)).2.2.1, (hq.out _ (below_step HB7.out hbc)).2.2.2⟩ (fun hHeld => ?_)
                    clear hK K
                    refine norm_ (a' := ?_) ?_ ?_
                    rotate_left
                    · show Act.put _ (some 68) _ = _
                      simp only [Act.put, List.setIfInBounds_toArray, List.set_cons_zero, List.set_cons_succ, i64_w, i32_w]
                      rfl
                    refine one_ (i := 10) (N := some 69) bHPush18 rfl rfl (by kernel_rfl) (by decide) (fun K hK => ?_)
                    obtain ⟨A8, c8, w6, hrun, hR, hbx⟩ := happ.out (w7.heap.size + 1) hbc hlit
                    refine clip_step (by rfl) (.tmp 61) (.tmp 68) rfl (by rfl) (by rfl) hrun ?_
                    clear hrun
                    have hne := fun k hk => (Nat.ne_of_gt (Nat.lt_of_lt_of_le (blk_lt hal) (Kd.R_base hR k hk)))
                    have hal := (hbx.block _ (blk_lt hal)).trans hal
                    have hR := Kd.R_lower hR hbc.size
                    have hbc := Below.trans hbc (Below.mono hbx hbc.size)
                    refine hK.out _ _ ⟨(hq.out _ (below_step HB7.out hbc)).2.1, (hq.out _ (below_step HB7.out hbc)).2.2.1, (hq.out _ (below_step HB7.out hbc)).2.2.2⟩ (fun hHeld => ?_)
                    clear hK K
                    refine norm_ (a' := ?_) ?_ ?_
                    rotate_left
                    · show Act.put _ (some 69) _ = _
                      simp only [Act.put, List.setIfInBounds_toArray, List.set_cons_zero, List.set_cons_succ, i64_w, i32_w]
                      rfl
                    refine p_ 11 (some 70) bHPush9 ?_
                    exact norm_ (by simp only [putAll, Act.put, List.setIfInBounds_toArray, List.set_cons_zero, List.set_cons_succ]) (hCont (A8, c8, w7.heap.size + 1, w7.heap.size) _ ⟨⟨(hq.out _ (below_step HB7.out hbc)).2.1, (hq.out _ (below_step HB7.out hbc)).2.2.1, (hq.out _ (below_step HB7.out hbc)).2.2.2⟩, hR, hal, hne, hge, hbc⟩)
                · skip
                  refine value_ (w1 := ?_) (v := ?_) (by rfl) rfl ?_ ?_
                  rotate_left 2
                  · go_simp
                    constructor
                    · rfl
                    · rfl
                  have hbc := (Below.refl w7.heap.size w7).drew
                  have hlit := heap_alloc_new w7.drew (.cells #[.int .u64 next, .string s, .int .u64 now] 54 (0, 0))
                  have hbc := below_alloc hbc (.cells #[.int .u64 next, .string s, .int .u64 now] 54 (0, 0))
                  refine hK.out _ _ ⟨(hq.out _ (below_step HB7.out hbc)).2.1, (hq.out _ (below_step HB7.out hbc)).2.2.1, (hq.out _ (below_step HB7.out hbc)).2.2.2⟩ (fun hHeld => ?_)
                  clear hK K
                  refine norm_ (a' := ?_) ?_ ?_
                  rotate_left
                  · show Act.put _ (some 68) _ = _
                    simp only [Act.put, List.setIfInBounds_toArray, List.set_cons_zero, List.set_cons_succ, i64_w, i32_w]
                    rfl
                  refine two_ (i := 2) (j := 12) (Ni := some 61) (Nj := some 11) bHPush13 bHPush19 rfl rfl rfl rfl (by kernel_rfl) (by decide) (by decide) (fun K hK => ?_) (fun K hK => ?_)
                  · skip
                    refine goes_ Try.func28 (by kernel_rfl) rfl #[.slice none 0 0] (by rfl) rfl rfl (by simp only [List.map_toArray, List.map_cons, List.map_nil]; rfl) ?_
                    with_reducible refine (hclip.out _).mono ?_
                    rintro e wq ⟨rfl, rfl⟩
                    refine ⟨_, rfl, ?_⟩
                    refine hK.out _ _ ⟨(hq.out _ (below_step HB7.out hbc)).2.1, (hq.out _ (below_step HB7.out hbc)).2.2.1, (hq.out _ (below_step HB7.out hbc)).2.2.2⟩ (fun hHeld => ?_)
                    clear hK K
                    refine norm_ (a' := ?_) ?_ ?_
                    rotate_left
                    · show Act.put _ (some 61) _ = _
                      simp only [Act.put, List.setIfInBounds_toArray, List.set_cons_zero, List.set_cons_succ, i64_w, i32_w]
                      rfl
                    refine two_ (i := 10) (j := 12) (Ni := some 69) (Nj := some 11) bHPush15 bHPush16 rfl rfl rfl rfl (by kernel_rfl) (by decide) (by decide) (fun K hK => ?_) (fun K hK => ?_)
                    · skip
                      obtain ⟨A8, c8, w6, hrun, hR, hbx⟩ := happ.out (w7.heap.size) hbc hlit
                      refine clip_step (by rfl) (.tmp 61) (.tmp 68) rfl (by rfl) (by rfl) hrun ?_
                      clear hrun
                      have hR := Kd.R_lower hR hbc.size
                      have hbc := Below.trans hbc (Below.mono hbx hbc.size)
                      refine hK.out _ _ ⟨(hq.out _ (below_step HB7.out hbc)).2.1, (hq.out _ (below_step HB7.out hbc)).2.2.1, (hq.out _ (below_step HB7.out hbc)).2.2.2⟩ (fun hHeld => ?_)
                      clear hK K
                      refine norm_ (a' := ?_) ?_ ?_
                      rotate_left
                      · show Act.put _ (some 69) _ = _
                        simp only [Act.put, List.setIfInBounds_toArray, List.set_cons_zero, List.set_cons_succ, i64_w, i32_w]
                        rfl
                      refine p_ 11 (some 70) bHPush17 ?_
                      refine one_ (i := 12) (N := some 11) bHPush9 rfl rfl (by kernel_rfl) (by decide) (fun K hK => ?_)
                      refine value_ (w1 := ?_) (v := ?_) (by rfl) rfl ?_ ?_
                      rotate_left 2
                      · go_simp
                        constructor
                        · rfl
                        · rfl
                      have hne := fun k hk => Nat.ne_of_lt (Kd.R_lt hR k hk)
                      have hR := Kd.R_alloc hR (.cells #[.int .u64 0, .slice none 0 0] 57 (0, 0))
                      have hge := hbc.size
                      have hal := al_new hbc (.cells #[.int .u64 0, .slice none 0 0] 57 (0, 0))
                      have hbc := below_alloc hbc (.cells #[.int .u64 0, .slice none 0 0] 57 (0, 0))
                      refine hK.out _ _ ⟨(hq.out _ (below_step HB7.out hbc)).2.1, (hq.out _ (below_step HB7.out hbc)).2.2.1, (hq.out _ (below_step HB7.out hbc)).2.2.2⟩ (fun hHeld => ?_)
                      clear hK K
                      refine norm_ (a' := ?_) ?_ ?_
                      rotate_left
                      · show Act.put _ (some 11) _ = _
                        simp only [Act.put, List.setIfInBounds_toArray, List.set_cons_zero, List.set_cons_succ, i64_w, i32_w]
                        rfl
                      exact norm_ (by simp only [putAll, Act.put, List.setIfInBounds_toArray, List.set_cons_zero, List.set_cons_succ]) (hCont (A8, c8, w7.heap.size, w6.heap.size) _ ⟨⟨(hq.out _ (below_step HB7.out hbc)).2.1, (hq.out _ (below_step HB7.out hbc)).2.2.1, (hq.out _ (below_step HB7.out hbc)).2.2.2⟩, hR, hal, hne, hge, hbc⟩)
                    · skip
                      refine value_ (w1 := ?_) (v := ?_) (by rfl) rfl ?_ ?_
                      rotate_left 2
                      · go_simp
                        constructor
                        · rfl
                        · rfl
                      have hlit := al_old hbc (.cells #[.int .u64 0, .slice none 0 0] 57 (0, 0)) hlit
                      have hge : w7.heap.size ≤ w7.heap.size + 1 := Nat.le_succ _
                      have hal := (alloc2 w7.drew (.cells #[.int .u64 next, .string s, .int .u64 now] 54 (0, 0)) (.cells #[.int .u64 0, .slice none 0 0] 57 (0, 0))).2.1
                      have hbc := below_alloc hbc (.cells #[.int .u64 0, .slice none 0 0] 57 (0, 0))
                      refine hK.out _ _ ⟨(hq.out _ (below_step HB7.out hbc)).2.1, (hq.out _ (below_step HB7.out hbc)).2.2.1, (hq.out _ (below_step HB7.out hbc)).2.2.2⟩ (fun hHeld => ?_)
                      clear hK K
                      refine norm_ (a' := ?_) ?_ ?_
                      rotate_left
                      · show Act.put _ (some 11) _ = _
                        simp only [Act.put, List.setIfInBounds_toArray, List.set_cons_zero, List.set_cons_succ, i64_w, i32_w]
                        rfl
                      refine one_ (i := 10) (N := some 69) bHPush18 rfl rfl (by kernel_rfl) (by decide) (fun K hK => ?_)
                      obtain ⟨A8, c8, w6, hrun, hR, hbx⟩ := happ.out (w7.heap.size) hbc hlit
                      refine clip_step (by rfl) (.tmp 61) (.tmp 68) rfl (by rfl) (by rfl) hrun ?_
                      clear hrun
                      have hne := fun k hk => (Nat.ne_of_gt (Nat.lt_of_lt_of_le (blk_lt hal) (Kd.R_base hR k hk)))
                      have hal := (hbx.block _ (blk_lt hal)).trans hal
                      have hR := Kd.R_lower hR hbc.size
                      have hbc := Below.trans hbc (Below.mono hbx hbc.size)
                      refine hK.out _ _ ⟨(hq.out _ (below_step HB7.out hbc)).2.1, (hq.out _ (below_step HB7.out hbc)).2.2.1, (hq.out _ (below_step HB7.out hbc)).2.2.2⟩ (fun hHeld => ?_)
                      clear hK K
                      refine norm_ (a' := ?_) ?_ ?_
                      rotate_left
                      · show Act.put _ (some 69) _ = _
                        simp only [Act.put, List.setIfInBounds_toArray, List.set_cons_zero, List.set_cons_succ, i64_w, i32_w]
                        rfl
                      refine p_ 11 (some 70) bHPush9 ?_
                      exact norm_ (by simp only [putAll, Act.put, List.setIfInBounds_toArray, List.set_cons_zero, List.set_cons_succ]) (hCont (A8, c8, w7.heap.size, w7.heap.size + 1) _ ⟨⟨(hq.out _ (below_step HB7.out hbc)).2.1, (hq.out _ (below_step HB7.out hbc)).2.2.1, (hq.out _ (below_step HB7.out hbc)).2.2.2⟩, hR, hal, hne, hge, hbc⟩)
                  · skip
                    refine value_ (w1 := ?_) (v := ?_) (by rfl) rfl ?_ ?_
                    rotate_left 2
                    · go_simp
                      constructor
                      · rfl
                      · rfl
                    have hlit := al_old hbc (.cells #[.int .u64 0, .slice none 0 0] 57 (0, 0)) hlit
                    have hge : w7.heap.size ≤ w7.heap.size + 1 := Nat.le_succ _
                    have hal := (alloc2 w7.drew (.cells #[.int .u64 next, .string s, .int .u64 now] 54 (0, 0)) (.cells #[.int .u64 0, .slice none 0 0] 57 (0, 0))).2.1
                    have hbc := below_alloc hbc (.cells #[.int .u64 0, .slice none 0 0] 57 (0, 0))
                    refine hK.out _ _ ⟨(hq.out _ (below_step HB7.out hbc)).2.1, (hq.out _ (below_step HB7.out hbc)).2.2.1, (hq.out _ (below_step HB7.out hbc)).2.2.2⟩ (fun hHeld => ?_)
                    clear hK K
                    refine norm_ (a' := ?_) ?_ ?_
                    rotate_left
                    · show Act.put _ (some 11) _ = _
                      simp only [Act.put, List.setIfInBounds_toArray, List.set_cons_zero, List.set_cons_succ, i64_w, i32_w]
                      rfl
                    refine one_ (i := 2) (N := some 61) bHPush16 rfl rfl (by kernel_rfl) (by decide) (fun K hK => ?_)
                    refine goes_ Try.func28 (by kernel_rfl) rfl #[.slice none 0 0] (by rfl) rfl rfl (by simp only [List.map_toArray, List.map_cons, List.map_nil]; rfl) ?_
                    with_reducible refine (hclip.out _).mono ?_
                    rintro e wq ⟨rfl, rfl⟩
                    refine ⟨_, rfl, ?_⟩
                    refine hK.out _ _ ⟨(hq.out _ (below_step HB7.out hbc)).2.1, (hq.out _ (below_step HB7.out hbc)).2.2.1, (hq.out _ (below_step HB7.out hbc)).2.2.2⟩ (fun hHeld => ?_)
                    clear hK K
                    refine norm_ (a' := ?_) ?_ ?_
                    rotate_left
                    · show Act.put _ (some 61) _ = _
                      simp only [Act.put, List.setIfInBounds_toArray, List.set_cons_zero, List.set_cons_succ, i64_w, i32_w]
                      rfl
                    refine one_ (i := 10) (N := some 69) bHPush18 rfl rfl (by kernel_rfl) (by decide) (fun K hK => ?_)
                    obtain ⟨A8, c8, w6, hrun, hR, hbx⟩ := happ.out (w7.heap.size) hbc hlit
                    refine clip_step (by rfl) (.tmp 61) (.tmp 68) rfl (by rfl) (by rfl) hrun ?_
                    clear hrun
                    have hne := fun k hk => (Nat.ne_of_gt (Nat.lt_of_lt_of_le (blk_lt hal) (Kd.R_base hR k hk)))
                    have hal := (hbx.block _ (blk_lt hal)).trans hal
                    have hR := Kd.R_lower hR hbc.size
                    have hbc := Below.trans hbc (Below.mono hbx hbc.size)
                    refine hK.out _ _ ⟨(hq.out _ (below_step HB7.out hbc)).2.1, (hq.out _ (below_step HB7.out hbc)).2.2.1, (hq.out _ (below_step HB7.out hbc)).2.2.2⟩ (fun hHeld => ?_)
                    clear hK K
                    refine norm_ (a' := ?_) ?_ ?_
                    rotate_left
                    · show Act.put _ (some 69) _ = _
                      simp only [Act.put, List.setIfInBounds_toArray, List.set_cons_zero, List.set_cons_succ, i64_w, i32_w]
                      rfl
                    refine p_ 11 (some 70) bHPush9 ?_
                    exact norm_ (by simp only [putAll, Act.put, List.setIfInBounds_toArray, List.set_cons_zero, List.set_cons_succ]) (hCont (A8, c8, w7.heap.size, w7.heap.size + 1) _ ⟨⟨(hq.out _ (below_step HB7.out hbc)).2.1, (hq.out _ (below_step HB7.out hbc)).2.2.1, (hq.out _ (below_step HB7.out hbc)).2.2.2⟩, hR, hal, hne, hge, hbc⟩)
                · skip
                  refine value_ (w1 := ?_) (v := ?_) (by rfl) rfl ?_ ?_
                  rotate_left 2
                  · go_simp
                    constructor
                    · rfl
                    · rfl
                  have hbc := (Below.refl w7.heap.size w7).drew
                  have hge := Nat.le_refl w7.heap.size
                  have hal := heap_alloc_new w7.drew (.cells #[.int .u64 0, .slice none 0 0] 57 (0, 0))
                  have hbc := below_alloc hbc (.cells #[.int .u64 0, .slice none 0 0] 57 (0, 0))
                  refine hK.out _ _ ⟨(hq.out _ (below_step HB7.out hbc)).2.1, (hq.out _ (below_step HB7.out hbc)).2.2.1, (hq.out _ (below_step HB7.out hbc)).2.2.2⟩ (fun hHeld => ?_)
                  clear hK K
                  refine norm_ (a' := ?_) ?_ ?_
                  rotate_left
                  · show Act.put _ (some 11) _ = _
                    simp only [Act.put, List.setIfInBounds_toArray, List.set_cons_zero, List.set_cons_succ, i64_w, i32_w]
                    rfl
                  refine two_ (i := 2) (j := 9) (Ni := some 61) (Nj := some 68) bHPush14 bHPush19 rfl rfl rfl rfl (by kernel_rfl) (by decide) (by decide) (fun K hK => ?_) (fun K hK => ?_)
                  · skip
                    refine goes_ Try.func28 (by kernel_rfl) rfl #[.slice none 0 0] (by rfl) rfl rfl (by simp only [List.map_toArray, List.map_cons, List.map_nil]; rfl) ?_
                    with_reducible refine (hclip.out _).mono ?_
                    rintro e wq ⟨rfl, rfl⟩
                    refine ⟨_, rfl, ?_⟩
                    refine hK.out _ _ ⟨(hq.out _ (below_step HB7.out hbc)).2.1, (hq.out _ (below_step HB7.out hbc)).2.2.1, (hq.out _ (below_step HB7.out hbc)).2.2.2⟩ (fun hHeld => ?_)
                    clear hK K
                    refine norm_ (a' := ?_) ?_ ?_
                    rotate_left
                    · show Act.put _ (some 61) _ = _
                      simp only [Act.put, List.setIfInBounds_toArray, List.set_cons_zero, List.set_cons_succ, i64_w, i32_w]
                      rfl
                    refine one_ (i := 9) (N := some 68) bHPush16 rfl rfl (by kernel_rfl) (by decide) (fun K hK => ?_)
                    refine value_ (w1 := ?_) (v := ?_) (by rfl) rfl ?_ ?_
                    rotate_left 2
                    · go_simp
                      constructor
                      · rfl
                      · rfl
                    have hal := al_old hbc (.cells #[.int .u64 next, .string s, .int .u64 now] 54 (0, 0)) hal
                    have hlit := (alloc2 w7.drew (.cells #[.int .u64 0, .slice none 0 0] 57 (0, 0)) (.cells #[.int .u64 next, .string s, .int .u64 now] 54 (0, 0))).2.1
                    have hbc := below_alloc hbc (.cells #[.int .u64 next, .string s, .int .u64 now] 54 (0, 0))
                    refine hK.out _ _ ⟨(hq.out _ (below_step HB7.out hbc)).2.1, (hq.out _ (below_step HB7.out hbc)).2.2.1, (hq.out _ (below_step HB7.out hbc)).2.2.2⟩ (fun hHeld => ?_)
                    clear hK K
                    refine norm_ (a' := ?_) ?_ ?_
                    rotate_left
                    · show Act.put _ (some 68) _ = _
                      simp only [Act.put, List.setIfInBounds_toArray, List.set_cons_zero, List.set_cons_succ, i64_w, i32_w]
                      rfl
                    refine one_ (i := 10) (N := some 69) bHPush18 rfl rfl (by kernel_rfl) (by decide) (fun K hK => ?_)
                    obtain ⟨A8, c8, w6, hrun, hR, hbx⟩ := happ.out (w7.heap.size + 1) hbc hlit
                    refine clip_step (by rfl) (.tmp 61) (.tmp 68) rfl (by rfl) (by rfl) hrun ?_
                    clear hrun
                    have hne := fun k hk => (Nat.ne_of_gt (Nat.lt_of_lt_of_le (blk_lt hal) (Kd.R_base hR k hk)))
                    have hal := (hbx.block _ (blk_lt hal)).trans hal
                    have hR := Kd.R_lower hR hbc.size
                    have hbc := Below.trans hbc (Below.mono hbx hbc.size)
                    refine hK.out _ _ ⟨(hq.out _ (below_step HB7.out hbc)).2.1, (hq.out _ (below_step HB7.out hbc)).2.2.1, (hq.out _ (below_step HB7.out hbc)).2.2.2⟩ (fun hHeld => ?_)
                    clear hK K
                    refine norm_ (a' := ?_) ?_ ?_
                    rotate_left
                    · show Act.put _ (some 69) _ = _
                      simp only [Act.put, List.setIfInBounds_toArray, List.set_cons_zero, List.set_cons_succ, i64_w, i32_w]
                      rfl
                    refine p_ 11 (some 70) bHPush9 ?_
                    exact norm_ (by simp only [putAll, Act.put, List.setIfInBounds_toArray, List.set_cons_zero, List.set_cons_succ]) (hCont (A8, c8, w7.heap.size + 1, w7.heap.size) _ ⟨⟨(hq.out _ (below_step HB7.out hbc)).2.1, (hq.out _ (below_step HB7.out hbc)).2.2.1, (hq.out _ (below_step HB7.out hbc)).2.2.2⟩, hR, hal, hne, hge, hbc⟩)
                  · skip
                    refine value_ (w1 := ?_) (v := ?_) (by rfl) rfl ?_ ?_
                    rotate_left 2
                    · go_simp
                      constructor
                      · rfl
                      · rfl
                    have hal := al_old hbc (.cells #[.int .u64 next, .string s, .int .u64 now] 54 (0, 0)) hal
                    have hlit := (alloc2 w7.drew (.cells #[.int .u64 0, .slice none 0 0] 57 (0, 0)) (.cells #[.int .u64 next, .string s, .int .u64 now] 54 (0, 0))).2.1
                    have hbc := below_alloc hbc (.cells #[.int .u64 next, .string s, .int .u64 now] 54 (0, 0))
                    refine hK.out _ _ ⟨(hq.out _ (below_step HB7.out hbc)).2.1, (hq.out _ (below_step HB7.out hbc)).2.2.1, (hq.out _ (below_step HB7.out hbc)).2.2.2⟩ (fun hHeld => ?_)
                    clear hK K
                    refine norm_ (a' := ?_) ?_ ?_
                    rotate_left
                    · show Act.put _ (some 68) _ = _
                      simp only [Act.put, List.setIfInBounds_toArray, List.set_cons_zero, List.set_cons_succ, i64_w, i32_w]
                      rfl
                    refine one_ (i := 2) (N := some 61) bHPush16 rfl rfl (by kernel_rfl) (by decide) (fun K hK => ?_)
                    refine goes_ Try.func28 (by kernel_rfl) rfl #[.slice none 0 0] (by rfl) rfl rfl (by simp only [List.map_toArray, List.map_cons, List.map_nil]; rfl) ?_
                    with_reducible refine (hclip.out _).mono ?_
                    rintro e wq ⟨rfl, rfl⟩
                    refine ⟨_, rfl, ?_⟩
                    refine hK.out _ _ ⟨(hq.out _ (below_step HB7.out hbc)).2.1, (hq.out _ (below_step HB7.out hbc)).2.2.1, (hq.out _ (below_step HB7.out hbc)).2.2.2⟩ (fun hHeld => ?_)
                    clear hK K
                    refine norm_ (a' := ?_) ?_ ?_
                    rotate_left
                    · show Act.put _ (some 61) _ = _
                      simp only [Act.put, List.setIfInBounds_toArray, List.set_cons_zero, List.set_cons_succ, i64_w, i32_w]
                      rfl
                    refine one_ (i := 10) (N := some 69) bHPush18 rfl rfl (by kernel_rfl) (by decide) (fun K hK => ?_)
                    obtain ⟨A8, c8, w6, hrun, hR, hbx⟩ := happ.out (w7.heap.size + 1) hbc hlit
                    refine clip_step (by rfl) (.tmp 61) (.tmp 68) rfl (by rfl) (by rfl) hrun ?_
                    clear hrun
                    have hne := fun k hk => (Nat.ne_of_gt (Nat.lt_of_lt_of_le (blk_lt hal) (Kd.R_base hR k hk)))
                    have hal := (hbx.block _ (blk_lt hal)).trans hal
                    have hR := Kd.R_lower hR hbc.size
                    have hbc := Below.trans hbc (Below.mono hbx hbc.size)
                    refine hK.out _ _ ⟨(hq.out _ (below_step HB7.out hbc)).2.1, (hq.out _ (below_step HB7.out hbc)).2.2.1, (hq.out _ (below_step HB7.out hbc)).2.2.2⟩ (fun hHeld => ?_)
                    clear hK K
                    refine norm_ (a' := ?_) ?_ ?_
                    rotate_left
                    · show Act.put _ (some 69) _ = _
                      simp only [Act.put, List.setIfInBounds_toArray, List.set_cons_zero, List.set_cons_succ, i64_w, i32_w]
                      rfl
                    refine p_ 11 (some 70) bHPush9 ?_
                    exact norm_ (by simp only [putAll, Act.put, List.setIfInBounds_toArray, List.set_cons_zero, List.set_cons_succ]) (hCont (A8, c8, w7.heap.size + 1, w7.heap.size) _ ⟨⟨(hq.out _ (below_step HB7.out hbc)).2.1, (hq.out _ (below_step HB7.out hbc)).2.2.1, (hq.out _ (below_step HB7.out hbc)).2.2.2⟩, hR, hal, hne, hge, hbc⟩)
              rintro ⟨A8, c8, gl8, g11⟩ w8 ⟨hs8, hR8, hal8, hne8, hge8, hbc8⟩
              have hHeld : w8.cell? ⟨w.heap.size, 1, none⟩ = some (.int .u64 now) ∧ w8.cell? ⟨w.heap.size, 2, none⟩ = some (.int .u64 next) ∧ w8.cell? ⟨w.heap.size + 1, 0, none⟩ = some (.string s) := hs8
              refine norm_ (a' := ?_) ?_ ?_
              rotate_left
              · simp only [putAll, Act.put, List.setIfInBounds_toArray, List.set_cons_zero, List.set_cons_succ]
                rfl
              refine last_ (i := 13) (N := none) bHPush20 rfl rfl (by kernel_rfl) (by decide) (fun K hK => ?_)
              refine skip_storeBox (by rfl) rfl 57 (.tmp 11) (.tmp 70) rfl (.agg #[.int .u64 u, .slice A8 1 c8]) [.int .u64 u, .slice A8 1 c8] rfl rfl rfl (by kernel_rfl) (by simp [Value.oneCell']) hal8 rfl ?_
              intro w9 hK9 hg9 hs9
              refine hK.out _ _ ?_
              clear hK K
              refine done_ (by kernel_rfl) ?_
              have hb9 : Below w7.heap.size w7 w9 := hbc8.grown hg9 hbc8.size (fun k hk => by cases hk; exact hge8)
              have hR9 : Kd.R k54 54 w9 w7.heap.size (fun k => some k = (Value.slice A8 1 c8).ownBlock) (.slice A8 1 c8) (old ++ [mm]) := Kd.R_grown (Kd.R_tight rfl hR8) hg9 (fun k hk e => by cases e; exact hne8 _ hk.symm rfl)
              have hz7 : w3.heap.size ≤ w7.heap.size := HB7.out.size
              have hz3 : w2.heap.size < w3.heap.size := blk_lt hK3
              have hz9 : w7.heap.size ≤ w9.heap.size := hb9.size
              have HB9 := Aside0.mk (below_step HB7.out hb9)
              have HB9w := Aside0.mk (below_step hB3.out HB9.out)
              obtain ⟨w0, hw0⟩ : ∃ w0, blank (bs S w9) w.heap.size w2.heap.size = w0 := ⟨_, rfl⟩
              obtain ⟨mx, hmx⟩ : ∃ mx : S57, mx = { f0 := u, f1 := old ++ [mm] } := ⟨_, rfl⟩
              have hK0 : k57.K w0 mx [.int .u64 u, .slice A8 1 c8] := by rw [← hw0, hmx]; exact blank_K57 (bs_R hR9 (fun k hk => by have := hS.out k hk; omega)) (by omega) (by omega)
              have h0C : (kr w0).C w9 A0 l0.length l0 := kr_sees (by rw [← hw0]; exact blank_sees (by rw [bs_size]; exact bs_below HB9w.out) (by rw [bs_size]; exact Nat.le_refl _) (by rw [bs_size]; omega)) (C_krB (sees_trans bs_sees (sees_below HB9w.out)) hrS.out)
              have hseen : ∀ W, Keep2 w9 W w.heap.size w2.heap.size → Sees w0 (bs S W) := fun W hW => by rw [← hw0]; exact sees_blank (bs_keep2 hW)
              have hK39 := (HB9.out.block _ (blk_lt hK3)).trans hK3
              have hK139 := (HB9.out.block _ (blk_lt hK13)).trans hK13
              have hg3s : w.heap.size < w9.heap.size := blk_lt hK139
              have hg6s : w2.heap.size < w9.heap.size := blk_lt hK39
              have hg9s : g11 < w9.heap.size := blk_lt hK9
              have hge11 : w3.heap.size ≤ g11 := Nat.le_trans hz7 hge8
              have hcl := Aside0.mk (clone_any A0 c0 l0 w0 w9 h0C hc0 hlen)
              replace hseen := Lib.hid hseen
              replace hK0 := Lib.hid hK0
              replace hmx := Lib.hid hmx
              replace hw0 := Lib.hid hw0
              have hzz := hz
              replace hz := Lib.hid (And.intro hz7 (And.intro hz3 (And.intro hz9 (And.intro hg3s (And.intro hg6s (And.intro hg9s hge11))))))
              clear hz7 hz3 hz9 hg3s hg6s hg9s hge11 hR9 hR8 hne8 hge8 hbc8 hb9 h0C hs8 hHeld hg9 hs9 hal8 z0 z1 z2 z3 happ hclip
              obtain ⟨z0, z1, z2, z3⟩ := hq.out _ HB9.out
              go_wp2_with fail
              refine hcl.out.mono ?_; rintro e_ w10 ⟨v, rfl, hR10, hb10⟩
              clear hcl z0 z1 z2 z3
              have hK1310 := (hb10.block _ hz.out.2.2.2.1).trans hK139
              obtain ⟨A1, c1, rfl, hcc1, _⟩ := Kd.R_reads hR10
              have hwg : w.heap.size < w2.heap.size := by omega
              have hk10 : Keep2 w9 w10 w.heap.size w.heap.size := keep2_below (keep2_refl _ _ _) hb10 (Nat.le_refl _)
              have hK910 := (hb10.block _ hz.out.2.2.2.2.2.1).trans hK9
              have hbw10 := below_step HB9w.out hb10
              have hnw : (next + 1) % 18446744073709551616 = next + 1 := by omega
              go_wp2_with (((with_reducible refine gate_store (t := 22) (p := 74) rfl ?_); go_loud (refine wpList_storeField rfl rfl 22 (.tmp 74) (.tmp 73) rfl 0 (.slice A1 l0.length c1) #[.slice A1 l0.length c1, .int .u64 now, .int .u64 next] rfl rfl rfl (by kernel_rfl) rfl hK1310 (Nat.le_of_ble_eq_true rfl) rfl ?_; intro w11 hK11 hg11 hs11; have hK911 := (hg11.block _ (blk_lt hK910) (fun e => by injection e with e; have := hz.out; omega)).trans hK910; have hR11 := Kd.R_grown (Kd.R_tight rfl hR10) hg11 (fun k hk e => by injection e with e; have := Kd.R_base hR10 k hk.symm; have := hz.out; omega); have hk11 := keep2_grown hk10 hg11 (.inl rfl); have hbw11 := hbw10.grown hg11 hbw10.size (fun k hk => by cases hk; exact Nat.le_refl _); clear hs11; obtain ⟨z0, z1, z2⟩ := box3 hK11; have y0 := (blk_cell hK911 0).trans rfl; have y1 := (blk_cell hK911 1).trans rfl)))
              refine (insert_calls w9.heap.size A1 c1 l0 mx i w11.heap.size [.int .u64 u, .slice A8 1 c8] w0 _ (Kd.R_mono (Kd.R_alloc hR11 _) (fun _ _ => trivial)) (Nat.le_trans hk11.1 (by simp)) hf.out.1 hlen hK0.out (fun k hk => Nat.ne_of_gt (Kd.R_lt hR11 k hk)) (heap_alloc_new _ _)).mono ?_; rintro e_ w12 ⟨v, rfl, hR12, hb12⟩
              have hl1 : (l0.take i ++ mx :: l0.drop i).length = l0.length + 1 := by have := hf.out.1; rw [List.length_append, List.length_take, List.length_cons, List.length_drop]; omega
              replace hb12 := Below.trans (Below.mono (below_alloc (Below.refl w11.heap.size w11) _) hk11.1) hb12
              have hk12 := keep2_below hk11 hb12 (Nat.le_refl _)
              have hK12 := (hb12.block _ hz.out.2.2.2.1).trans hK11
              have hbw12 := Below.trans hbw11 (Below.mono hb12 (Nat.le_of_lt hz.out.2.2.2.1))
              obtain ⟨A2, c2, hv2, _, _⟩ := Kd.R_reads hR12
              rw [hl1] at hv2
              subst hv2
              replace hl1 := Lib.hid hl1
              clear y0 y1 z0 z1 z2 hK911
              go_wp2_with (first | ((with_reducible refine gate_store (t := 22) (p := 87) rfl ?_); go_loud (refine wpList_storeField rfl rfl 22 (.tmp 87) (.tmp 86) rfl 0 (.slice A2 (l0.length + 1) c2) #[.slice A2 (l0.length + 1) c2, .int .u64 now, .int .u64 next] rfl rfl rfl (by kernel_rfl) rfl hK12 (Nat.le_of_ble_eq_true rfl) rfl ?_; intro w13 hK13 hg13 hs13; have hR13 := Kd.R_grown (Kd.R_tight rfl hR12) hg13 (fun k hk e => by injection e with e; have := Kd.R_base hR12 k hk.symm; have := hz.out; omega); have hk13 := keep2_grown hk12 hg13 (.inl rfl); have hbw13 := hbw12.grown hg13 hbw12.size (fun k hk => by cases hk; exact Nat.le_refl _); clear hs13; obtain ⟨z0, z1, z2⟩ := box3 hK13)) | ((with_reducible refine gate_store (t := 23) (p := 91) rfl ?_); go_loud (refine wpList_storeField rfl rfl 23 (.tmp 91) (.tmp 90) rfl 2 (.int .u64 (next + 1)) #[.slice A2 (l0.length + 1) c2, .int .u64 now, .int .u64 (next + 1)] rfl rfl rfl (by kernel_rfl) rfl hK13 (Nat.le_of_ble_eq_true rfl) rfl ?_; intro w14 hK14 hg14 hs14; have hR14 := Kd.R_grown hR13 hg14 (fun k hk e => by injection e with e; have := Kd.R_base hR13 k hk.symm; have := hz.out; omega); clear z0 z1 z2; have hk14 := keep2_grown hk13 hg14 (.inl rfl); have hbw14 := hbw13.grown hg14 hbw13.size (fun k hk => by cases hk; exact Nat.le_refl _); clear hs14; obtain ⟨z0, z1, z2⟩ := box3 hK14)) | ((with_reducible refine gate_store (t := 25) (p := 6) rfl ?_); go_loud (refine wpList_storeBox rfl rfl 25 (.tmp 6) (.tmp 92) rfl (.agg #[.slice A2 (l0.length + 1) c2, .int .u64 now, .int .u64 (next + 1)]) [.slice A2 (l0.length + 1) c2, .int .u64 now, .int .u64 (next + 1)] rfl rfl rfl (by kernel_rfl) (by simp [Value.oneCell']) ((hk14.2 _ hz.out.2.2.2.2.1 (fun e => by omega) (fun e => by omega)).trans hK39) rfl ?_; intro w15 hK15 hg15 hs15; clear hs15 z0 z1 z2; obtain ⟨z0, z1, z2⟩ := box3 hK15)))
              have hk15 := keep2_grown (keep2_weak hk14 w2.heap.size) hg15 (.inr (.inl rfl))
              have hR15 := Kd.R_grown hR14 hg15 (fun k hk e => by injection e with e; have := Kd.R_base hR14 k hk.symm; have := hz.out; omega)
              obtain ⟨hlf, hcf, hCf⟩ := Kd.R_reads' (bs_R hR15 (fun k hk => by have := hS.out k hk; have := hz.out; omega))
              refine bodyPost_ret (v := .tuple #[rv A2 (l0.length + 1) c2 now (next + 1), .int .i64 0]) (by simp [results, Try.results9, go_sem, z0, z1, z2]) rfl ?_
              refine ⟨hEnd.out _ _ (.inr (.inr (.inr (.inr ⟨hzz, hh, by simpa using hnf.out, hx, l0.take i ++ mx :: l0.drop i, A2, c2, by rw [if_neg (by decide), hmx.out, hmm.out], by rw [hl1.out], by rw [hl1.out]; exact hcf, sees_kr (hseen.out _ hk15) hCf⟩)))), hbw14.grown hg15 hbw14.size (fun k hk => by cases hk; omega)⟩
      · have hzi : (1400 : Int) < (s.size : Int) := by omega
        have hfin : ∀ W, Hid (PushE l0 now next u s (.returned (.tuple #[zerR, .int .i64 2])) W) := fun W => Lib.hid (hEnd.out _ W (.inl ⟨by omega, rfl⟩))
        go_wp2_with ((with_reducible refine gate_store (t := 25) (p := 6) rfl ?_); go_loud (refine wpList_storeBox rfl rfl 25 (.tmp 6) (.tmp 33) rfl zerR [.slice none 0 0, .int .u64 0, .int .u64 0] rfl rfl rfl (by kernel_rfl) (by simp [Value.oneCell']) hK35 rfl ?_); intro wz hKz hgz hsz)
        have hBz : Below w.heap.size w wz := (below_step hB3.out hB5.out).grown hgz (below_step hB3.out hB5.out).size (fun k hk => by cases hk; omega)
        obtain ⟨y0, y1, y2⟩ := box3 hKz
        refine bodyPost_ret (v := .tuple #[zerR, .int .i64 2]) (by simp [results, Try.results9, go_sem, y0, y1, y2]) rfl ?_
        exact ⟨(hfin _).out, hBz⟩
    | true =>
      obtain ⟨hi, hu⟩ := found_yes hf
      obtain ⟨ad, Ao, co, eA, q0, q1, hco, hCo⟩ := at_T57 (Kd.C_below hr3.out hB5.out) (i : Int) (by omega) (by omega)
      subst eA
      rw [Int.toNat_natCast] at q0 q1
      obtain ⟨old, hold⟩ : ∃ old, (rd_T57 l0 (i : Int)).f1 = old := ⟨_, rfl⟩
      have hw6 := hwf (rd_T57 l0 (i : Int)) (by rw [rd57_nat l0 i hi]; exact List.getElem_mem hi)
      rw [hold] at q1 hco hCo hw6
      have hin : (i : Int) < l0.length := by omega
      obtain ⟨N, hN⟩ : ∃ N, old.length = N := ⟨_, rfl⟩
      have hN6 : N ≤ 1000000 := by rw [← hN]; exact hw6.1
      rw [hN] at hco hCo q1
      have hEnd := Lib.hid (fun e W h => (show PushE l0 now next u s e W from .inr ⟨hR, i, true, old, hf, (by rw [if_pos rfl]; exact hold.symm), h⟩))
      have hq5 := hq.out _ hB5.out
      obtain ⟨z0, z1, z2, z3⟩ := hq5
      have hK23' := (hB5.out.block _ (blk_lt hK23)).trans hK23
      have hcon := containsM_calls Ao co old (w.heap.size + 1) s w5 (by rw [hN]; exact hCo) (by rw [hN]; exact hco) (by rw [hN]; exact hN6) hK23'
      rw [hN] at hcon
      replace hcon := Aside0.mk hcon
      replace hf := Lib.hid hf
      replace hCo := Aside0.mk hCo
      replace hold := Lib.hid hold
      replace hmm := Lib.hid hmm
      have hN' := hN
      replace hN := Lib.hid hN
      clear hN' hw6 hK23'
      by_cases hz : s.size ≤ 1400
      · have hzi : ¬ ((1400 : Int) < (s.size : Int)) := by omega
        have hzd : decide ((1400 : Int) < (s.size : Int)) = false := decide_eq_false hzi
        have hzn : decide (1400 < s.size) = false := decide_eq_false (by omega)
        go_wp2_with fail
        refine hcon.out.mono ?_; rintro e_ w7 ⟨rfl, hb7⟩
        have HB7 := Aside0.mk (below_step hB5.out hb7)
        have hK37 := (HB7.out.block _ (blk_lt hK3)).trans hK3
        clear hcon z0 z1 z2 z3 q0 q1
        obtain ⟨z0, z1, z2, z3⟩ := hq.out _ HB7.out
        cases hh : hasB old s with
        | true =>
          have hfin : ∀ W, Hid (PushE l0 now next u s (.returned (.tuple #[zerR, .int .i64 7])) W) := fun W => Lib.hid (hEnd.out _ W (.inr (.inl ⟨hz, hh, rfl⟩)))
          go_wp2_with ((with_reducible refine gate_store (t := 25) (p := 6) rfl ?_); go_loud (refine wpList_storeBox rfl rfl 25 (.tmp 6) (.tmp 38) rfl zerR [.slice none 0 0, .int .u64 0, .int .u64 0] rfl rfl rfl (by kernel_rfl) (by simp [Value.oneCell']) hK37 rfl ?_); intro wz hKz hgz hsz)
          have hBz : Below w.heap.size w wz := (below_step hB3.out HB7.out).grown hgz (below_step hB3.out HB7.out).size (fun k hk => by cases hk; omega)
          obtain ⟨y0, y1, y2⟩ := box3 hKz
          refine bodyPost_ret (v := .tuple #[zerR, .int .i64 7]) (by simp [results, Try.results9, go_sem, y0, y1, y2]) rfl ?_
          exact ⟨(hfin _).out, hBz⟩
        | false =>
          by_cases h16 : N = 16
          · have hfin : ∀ W, Hid (PushE l0 now next u s (.returned (.tuple #[zerR, .int .i64 6])) W) := fun W => Lib.hid (hEnd.out _ W (.inr (.inr (.inl ⟨hz, hh, .inl (by rw [hN.out]; exact h16), rfl⟩))))
            have h16i : (N : Int) = 16 := by omega
            go_wp2_with ((with_reducible refine gate_store (t := 25) (p := 6) rfl ?_); go_loud (refine wpList_storeBox rfl rfl 25 (.tmp 6) (.tmp 53) rfl zerR [.slice none 0 0, .int .u64 0, .int .u64 0] rfl rfl rfl (by kernel_rfl) (by simp [Value.oneCell']) hK37 rfl ?_); intro wz hKz hgz hsz)
            have hBz : Below w.heap.size w wz := (below_step hB3.out HB7.out).grown hgz (below_step hB3.out HB7.out).size (fun k hk => by cases hk; omega)
            obtain ⟨y0, y1, y2⟩ := box3 hKz
            refine bodyPost_ret (v := .tuple #[zerR, .int .i64 6]) (by simp [results, Try.results9, go_sem, y0, y1, y2]) rfl ?_
            exact ⟨(hfin _).out, hBz⟩
          · have h16i : ¬ ((N : Int) = 16) := by omega
            have h16b : ((N : Int) == 16) = false := beq_eq_false_iff_ne.2 h16i
            have hnf : ¬ (old.length = 16 ∨ (true = false ∧ l0.length = 8)) := by
              rw [hN.out]
              rintro (h | ⟨h, _⟩)
              · exact h16 h
              · cases h
            by_cases hx : next = 4611686018427387903
            · have hfin : ∀ W, Hid (PushE l0 now next u s (.returned (.tuple #[zerR, .int .i64 1])) W) := fun W => Lib.hid (hEnd.out _ W (.inr (.inr (.inr (.inl ⟨hz, hh, by simpa using hnf, hx, rfl⟩)))))
              replace hnf := Lib.hid hnf
              go_wp2_with ((with_reducible refine gate_store (t := 25) (p := 6) rfl ?_); go_loud (refine wpList_storeBox rfl rfl 25 (.tmp 6) (.tmp 58) rfl zerR [.slice none 0 0, .int .u64 0, .int .u64 0] rfl rfl rfl (by kernel_rfl) (by simp [Value.oneCell']) hK37 rfl ?_); intro wz hKz hgz hsz)
              have hBz : Below w.heap.size w wz := (below_step hB3.out HB7.out).grown hgz (below_step hB3.out HB7.out).size (fun k hk => by cases hk; omega)
              obtain ⟨y0, y1, y2⟩ := box3 hKz
              refine bodyPost_ret (v := .tuple #[zerR, .int .i64 1]) (by simp [results, Try.results9, go_sem, y0, y1, y2]) rfl ?_
              exact ⟨(hfin _).out, hBz⟩
            · have hxb : (next == 4611686018427387903) = false := beq_eq_false_iff_ne.2 hx
              have hCold := Aside0.mk (Kd.C_below hCo.out hb7)
              have hclip := Lib.hid (fun W => by have := clip_calls Ao co old W (by rw [hN.out]; exact hco); rw [hN.out] at this; exact this)
              have happ : Hid (∀ (g : Nat) {W : World}, Below w7.heap.size w7 W → W.heap[g]? = some (.cells #[.int .u64 next, .string s, .int .u64 now] 54 (0, 0)) → ∃ A1 c1 w1, (Builtin.append_ #[39, 39] 39 #[.slice Ao N N, .slice (some ⟨g, 0, none⟩) 1 1]).run Try.prog W = .ok (.slice A1 (N + 1) c1) w1 ∧ Kd.R k54 54 w1 W.heap.size (fun _ => True) (.slice A1 (N + 1) c1) (old ++ [mm]) ∧ Below W.heap.size W w1) := Lib.hid fun g W hW hg => by
                have := run_append_clip k54 (W := W) 39 39 54 (.agg #[(.int .u64 0), (.string ⟨#[]⟩), (.int .u64 0)]) 32 Try.underlying39 info54 rfl (by decide) (by omega) Ao old [mm] ⟨g, 0, none⟩ 1 (by rw [hN.out]; exact Kd.C_below hCold.out hW) (one_C54 (m := mm) (by rw [hmm.out]; exact hg)) (by simp) (fun w1 base ok x cs h => by obtain rfl := k54_open h; exact k54_mkM _ _ _ _) (by rw [hN.out]; first | (simp only [List.length_singleton]; omega) | (simp; done))
                obtain ⟨v1, w1, h1, h2, h3⟩ := this
                obtain ⟨A1, c1, rfl, -, -⟩ := Kd.R_reads h2
                rw [List.length_append, List.length_singleton, hN.out] at h1 h2
                exact ⟨A1, c1, w1, h1, h2, h3⟩
              replace hnf := Lib.hid hnf
              clear hK37
              go_wp2
              refine start_ (n := 14) (S := fun w' => w'.cell? ⟨w.heap.size, 1, none⟩ = some (.int .u64 now) ∧ w'.cell? ⟨w.heap.size, 2, none⟩ = some (.int .u64 next) ∧ w'.cell? ⟨w.heap.size + 1, 0, none⟩ = some (.string s)) (ds := [13]) bHPush0 (by kernel_rfl) rfl rfl ⟨(hq.out _ (below_step HB7.out (Below.refl w7.heap.size w7).drew)).2.1, (hq.out _ (below_step HB7.out (Below.refl w7.heap.size w7).drew)).2.2.1, (hq.out _ (below_step HB7.out (Below.refl w7.heap.size w7).drew)).2.2.2⟩ (fun hHeld => ?_)
              refine p_ 0 (some 59) bHPush1 ?_
              refine p_ 1 (some 60) bHPush2 ?_
              refine p_ 3 (some 62) bHPush3 ?_
              refine p_ 6 (some 65) bHPush4 ?_
              refine t_ 4 (some 63) bHPush5 hHeld (hv := by rintro w' ⟨s0, s1, s2⟩; go_simp; with_reducible rfl) (h := ?_)
              refine t_ 5 (some 64) bHPush6 hHeld (hv := by rintro w' ⟨s0, s1, s2⟩; go_simp; with_reducible rfl) (h := ?_)
              refine t_ 7 (some 66) bHPush7 hHeld (hv := by rintro w' ⟨s0, s1, s2⟩; go_simp; with_reducible rfl) (h := ?_)
              refine p_ 8 (some 67) bHPush8 ?_
              refine join_ (σ := Option Addr × Nat × Nat × Nat) 1 bHPush9 (fun s_ => [(61, .slice Ao N N), (68, .slice (some ⟨s_.2.2.1, 0, none⟩) 1 1), (69, .slice s_.1 (N + 1) s_.2.1), (70, .agg #[.int .u64 u, .slice s_.1 (N + 1) s_.2.1]), (11, .pointer (some ⟨s_.2.2.2, 0, none⟩))]) (fun s_ w' => (w'.cell? ⟨w.heap.size, 1, none⟩ = some (.int .u64 now) ∧ w'.cell? ⟨w.heap.size, 2, none⟩ = some (.int .u64 next) ∧ w'.cell? ⟨w.heap.size + 1, 0, none⟩ = some (.string s)) ∧ Kd.R k54 54 w' w7.heap.size (fun _ => True) (.slice s_.1 (N + 1) s_.2.1) (old ++ [mm]) ∧ w'.heap[s_.2.2.2]? = some (.cells #[.int .u64 0, .slice none 0 0] 57 (0, 0)) ∧ (∀ k, (Value.slice s_.1 (N + 1) s_.2.1).ownBlock = some k → k ≠ s_.2.2.2) ∧ w7.heap.size ≤ s_.2.2.2 ∧ Below w7.heap.size w7 w') ?_ ?_
              rotate_left
              · intro hCont
                refine three_ (i := 2) (j := 9) (k := 12) (Ni := some 61) (Nj := some 68) (Nk := some 11) bHPush10 bHPush11 bHPush12 rfl rfl rfl rfl rfl rfl (by kernel_rfl) (by decide) (by decide) (by decide) (fun K hK => ?_) (fun K hK => ?_) (fun K hK => ?_)
                · skip
                  refine goes_ Try.func28 (by kernel_rfl) rfl #[.slice Ao N co] (by rfl) rfl rfl (by simp only [List.map_toArray, List.map_cons, List.map_nil]; rfl) ?_
                  with_reducible refine (hclip.out _).mono ?_
                  rintro e wq ⟨rfl, rfl⟩
                  refine ⟨_, rfl, ?_⟩
                  have hbc := (Below.refl w7.heap.size w7).drew
                  refine hK.out _ _ ⟨(hq.out _ (below_step HB7.out hbc)).2.1, (hq.out _ (below_step HB7.out hbc)).2.2.1, (hq.out _ (below_step HB7.out hbc)).2.2.2⟩ (fun hHeld => ?_)
                  clear hK K
                  refine norm_ (a' := ?_) ?_ ?_
                  rotate_left
                  · show Act.put _ (some 61) _ = _
                    simp only [Act.put, List.setIfInBounds_toArray, List.set_cons_zero, List.set_cons_succ, i64_w, i32_w]
                    rfl
                  refine two_ (i := 9) (j := 12) (Ni := some 68) (Nj := some 11) bHPush13 bHPush14 rfl rfl rfl rfl (by kernel_rfl) (by decide) (by decide) (fun K hK => ?_) (fun K hK => ?_)
                  · skip
                    refine value_ (w1 := ?_) (v := ?_) (by rfl) rfl ?_ ?_
                    rotate_left 2
                    · go_simp
                      constructor
                      · rfl
                      · rfl
                    have hlit := heap_alloc_new w7.drew (.cells #[.int .u64 next, .string s, .int .u64 now] 54 (0, 0))
                    have hbc := below_alloc hbc (.cells #[.int .u64 next, .string s, .int .u64 now] 54 (0, 0))
                    refine hK.out _ _ ⟨(hq.out _ (below_step HB7.out hbc)).2.1, (hq.out _ (below_step HB7.out hbc)).2.2.1, (hq.out _ (below_step HB7.out hbc)).2.2.2⟩ (fun hHeld => ?_)
                    clear hK K
                    refine norm_ (a' := ?_) ?_ ?_
                    rotate_left
                    · show Act.put _ (some 68) _ = _
                      simp only [Act.put, List.setIfInBounds_toArray, List.set_cons_zero, List.set_cons_succ, i64_w, i32_w]
                      rfl
                    refine two_ (i := 10) (j := 12) (Ni := some 69) (Nj := some 11) bHPush15 bHPush16 rfl rfl rfl rfl (by kernel_rfl) (by decide) (by decide) (fun K hK => ?_) (fun K hK => ?_)
                    · skip
                      obtain ⟨A8, c8, w6, hrun, hR, hbx⟩ := happ.out (w7.heap.size) hbc hlit
                      refine clip_step (by rfl) (.tmp 61) (.tmp 68) rfl (by rfl) (by rfl) hrun ?_
                      clear hrun
                      have hR := Kd.R_lower hR hbc.size
                      have hbc := Below.trans hbc (Below.mono hbx hbc.size)
                      refine hK.out _ _ ⟨(hq.out _ (below_step HB7.out hbc)).2.1, (hq.out _ (below_step HB7.out hbc)).2.2.1, (hq.out _ (below_step HB7.out hbc)).2.2.2⟩ (fun hHeld => ?_)
                      clear hK K
                      refine norm_ (a' := ?_) ?_ ?_
                      rotate_left
                      · show Act.put _ (some 69) _ = _
                        simp only [Act.put, List.setIfInBounds_toArray, List.set_cons_zero, List.set_cons_succ, i64_w, i32_w]
                        rfl
                      refine p_ 11 (some 70) bHPush17 ?_
                      refine one_ (i := 12) (N := some 11) bHPush9 rfl rfl (by kernel_rfl) (by decide) (fun K hK => ?_)
                      refine value_ (w1 := ?_) (v := ?_) (by rfl) rfl ?_ ?_
                      rotate_left 2
                      · go_simp
                        constructor
                        · rfl
                        · rfl
                      have hne := fun k hk => Nat.ne_of_lt (Kd.R_lt hR k hk)
                      have hR := Kd.R_alloc hR (.cells #[.int .u64 0, .slice none 0 0] 57 (0, 0))
                      have hge := hbc.size
                      have hal := al_new hbc (.cells #[.int .u64 0, .slice none 0 0] 57 (0, 0))
                      have hbc := below_alloc hbc (.cells #[.int .u64 0, .slice none 0 0] 57 (0, 0))
                      refine hK.out _ _ ⟨(hq.out _ (below_step HB7.out hbc)).2.1, (hq.out _ (below_step HB7.out hbc)).2.2.1, (hq.out _ (below_step HB7.out hbc)).2.2.2⟩ (fun hHeld => ?_)
                      clear hK K
                      refine norm_ (a' := ?_) ?_ ?_
                      rotate_left
                      · show Act.put _ (some 11) _ = _
                        simp only [Act.put, List.setIfInBounds_toArray, List.set_cons_zero, List.set_cons_succ, i64_w, i32_w]
                        rfl
                      exact norm_ (by simp only [putAll, Act.put, List.setIfInBounds_toArray, List.set_cons_zero, List.set_cons_succ]) (hCont (A8, c8, w7.heap.size, w6.heap.size) _ ⟨⟨(hq.out _ (below_step HB7.out hbc)).2.1, (hq.out _ (below_step HB7.out hbc)).2.2.1, (hq.out _ (below_step HB7.out hbc)).2.2.2⟩, hR, hal, hne, hge, hbc⟩)
                    · skip
                      refine value_ (w1 := ?_) (v := ?_) (by rfl) rfl ?_ ?_
                      rotate_left 2
                      · go_simp
                        constructor
                        · rfl
                        · rfl
                      have hlit := al_old hbc (.cells #[.int .u64 0, .slice none 0 0] 57 (0, 0)) hlit
                      have hge : w7.heap.size ≤ w7.heap.size + 1 := Nat.le_succ _
                      have hal := (alloc2 w7.drew (.cells #[.int .u64 next, .string s, .int .u64 now] 54 (0, 0)) (.cells #[.int .u64 0, .slice none 0 0] 57 (0, 0))).2.1
                      have hbc := below_alloc hbc (.cells #[.int .u64 0, .slice none 0 0] 57 (0, 0))
                      refine hK.out _ _ ⟨(hq.out _ (below_step HB7.out hbc)).2.1, (hq.out _ (below_step HB7.out hbc)).2.2.1, (hq.out _ (below_step HB7.out hbc)).2.2.2⟩ (fun hHeld => ?_)
                      clear hK K
                      refine norm_ (a' := ?_) ?_ ?_
                      rotate_left
                      · show Act.put _ (some 11) _ = _
                        simp only [Act.put, List.setIfInBounds_toArray, List.set_cons_zero, List.set_cons_succ, i64_w, i32_w]
                        rfl
                      refine one_ (i := 10) (N := some 69) bHPush18 rfl rfl (by kernel_rfl) (by decide) (fun K hK => ?_)
                      obtain ⟨A8, c8, w6, hrun, hR, hbx⟩ := happ.out (w7.heap.size) hbc hlit
                      refine clip_step (by rfl) (.tmp 61) (.tmp 68) rfl (by rfl) (by rfl) hrun ?_
                      clear hrun
                      have hne := fun k hk => (Nat.ne_of_gt (Nat.lt_of_lt_of_le (blk_lt hal) (Kd.R_base hR k hk)))
                      have hal := (hbx.block _ (blk_lt hal)).trans hal
                      have hR := Kd.R_lower hR hbc.size
                      have hbc := Below.trans hbc (Below.mono hbx hbc.size)
                      refine hK.out _ _ ⟨(hq.out _ (below_step HB7.out hbc)).2.1, (hq.out _ (below_step HB7.out hbc)).2.2.1, (hq.out _ (below_step HB7.out hbc)).2.2.2⟩ (fun hHeld => ?_)
                      clear hK K
                      refine norm_ (a' := ?_) ?_ ?_
                      rotate_left
                      · show Act.put _ (some 69) _ = _
                        simp only [Act.put, List.setIfInBounds_toArray, List.set_cons_zero, List.set_cons_succ, i64_w, i32_w]
                        rfl
                      refine p_ 11 (some 70) bHPush9 ?_
                      exact norm_ (by simp only [putAll, Act.put, List.setIfInBounds_toArray, List.set_cons_zero, List.set_cons_succ]) (hCont (A8, c8, w7.heap.size, w7.heap.size + 1) _ ⟨⟨(hq.out _ (below_step HB7.out hbc)).2.1, (hq.out _ (below_step HB7.out hbc)).2.2.1, (hq.out _ (below_step HB7.out hbc)).2.2.2⟩, hR, hal, hne, hge, hbc⟩)
                  · skip
                    refine value_ (w1 := ?_) (v := ?_) (by rfl) rfl ?_ ?_
                    rotate_left 2
                    · go_simp
                      constructor
                      · rfl
                      · rfl
                    have hge := Nat.le_refl w7.heap.size
                    have hal := heap_alloc_new w7.drew (.cells #[.int .u64 0, .slice none 0 0] 57 (0, 0))
                    have hbc := below_alloc hbc (.cells #[.int .u64 0, .slice none 0 0] 57 (0, 0))
                    refine hK.out _ _ ⟨(hq.out _ (below_step HB7.out hbc)).2.1, (hq.out _ (below_step HB7.out hbc)).2.2.1, (hq.out _ (below_step HB7.out hbc)).2.2.2⟩ (fun hHeld => ?_)
                    clear hK K
                    refine norm_ (a' := ?_) ?_ ?_
                    rotate_left
                    · show Act.put _ (some 11) _ = _
                      simp only [Act.put, List.setIfInBounds_toArray, List.set_cons_zero, List.set_cons_succ, i64_w, i32_w]
                      rfl
                    refine one_ (i := 9) (N := some 68) bHPush16 rfl rfl (by kernel_rfl) (by decide) (fun K hK => ?_)
                    refine value_ (w1 := ?_) (v := ?_) (by rfl) rfl ?_ ?_
                    rotate_left 2
                    · go_simp
                      constructor
                      · rfl
                      · rfl
                    have hal := al_old hbc (.cells #[.int .u64 next, .string s, .int .u64 now] 54 (0, 0)) hal
                    have hlit := (alloc2 w7.drew (.cells #[.int .u64 0, .slice none 0 0] 57 (0, 0)) (.cells #[.int .u64 next, .string s, .int .u64 now] 54 (0, 0))).2.1
                    have hbc := below_alloc hbc (.cells #[.int .u64 next, .string s, .int .u64 now] 54 (0, 0))
                    refine hK.out _ _ ⟨(hq.out _ (below_step HB7.out hbc)).2.1, (hq.out _ (below_step HB7.out hbc)).2.2.1, (hq.out _ (below_step HB7.out hbc)).2.2.2⟩ (fun hHeld => ?_)
                    clear hK K
                    refine norm_ (a' := ?_) ?_ ?_
                    rotate_left
                    · show Act.put _ (some 68) _ = _
                      simp only [Act.put, List.setIfInBounds_toArray, List.set_cons_zero, List.set_cons_succ, i64_w, i32_w]
                      rfl
                    refine one_ (i := 10) (N := some 69) bHPush18 rfl rfl (by kernel_rfl) (by decide) (fun K hK => ?_)
                    obtain ⟨A8, c8, w6, hrun, hR, hbx⟩ := happ.out (w7.heap.size + 1) hbc hlit
                    refine clip_step (by rfl) (.tmp 61) (.tmp 68) rfl (by rfl) (by rfl) hrun ?_
                    clear hrun
                    have hne := fun k hk => (Nat.ne_of_gt (Nat.lt_of_lt_of_le (blk_lt hal) (Kd.R_base hR k hk)))
                    have hal := (hbx.block _ (blk_lt hal)).trans hal
                    have hR := Kd.R_lower hR hbc.size
                    have hbc := Below.trans hbc (Below.mono hbx hbc.size)
                    refine hK.out _ _ ⟨(hq.out _ (below_step HB7.out hbc)).2.1, (hq.out _ (below_step HB7.out hbc)).2.2.1, (hq.out _ (below_step HB7.out hbc)).2.2.2⟩ (fun hHeld => ?_)
                    clear hK K
                    refine norm_ (a' := ?_) ?_ ?_
                    rotate_left
                    · show Act.put _ (some 69) _ = _
                      simp only [Act.put, List.setIfInBounds_toArray, List.set_cons_zero, List.set_cons_succ, i64_w, i32_w]
                      rfl
                    refine p_ 11 (some 70) bHPush9 ?_
                    exact norm_ (by simp only [putAll, Act.put, List.setIfInBounds_toArray, List.set_cons_zero, List.set_cons_succ]) (hCont (A8, c8, w7.heap.size + 1, w7.heap.size) _ ⟨⟨(hq.out _ (below_step HB7.out hbc)).2.1, (hq.out _ (below_step HB7.out hbc)).2.2.1, (hq.out _ (below_step HB7.out hbc)).2.2.2⟩, hR, hal, hne, hge, hbc⟩)
                · skip
                  refine value_ (w1 := ?_) (v := ?_) (by rfl) rfl ?_ ?_
                  rotate_left 2
                  · go_simp
                    constructor
                    · rfl
                    · rfl
                  have hbc := (Below.refl w7.heap.size w7).drew
                  have hlit := heap_alloc_new w7.drew (.cells #[.int .u64 next, .string s, .int .u64 now] 54 (0, 0))
                  have hbc := below_alloc hbc (.cells #[.int .u64 next, .string s, .int .u64 now] 54 (0, 0))
                  refine hK.out _ _ ⟨(hq.out _ (below_step HB7.out hbc)).2.1, (hq.out _ (below_step HB7.out hbc)).2.2.1, (hq.out _ (below_step HB7.out hbc)).2.2.2⟩ (fun hHeld => ?_)
                  clear hK K
                  refine norm_ (a' := ?_) ?_ ?_
                  rotate_left
                  · show Act.put _ (some 68) _ = _
                    simp only [Act.put, List.setIfInBounds_toArray, List.set_cons_zero, List.set_cons_succ, i64_w, i32_w]
                    rfl
                  refine two_ (i := 2) (j := 12) (Ni := some 61) (Nj := some 11) bHPush13 bHPush19 rfl rfl rfl rfl (by kernel_rfl) (by decide) (by decide) (fun K hK => ?_) (fun K hK => ?_)
                  · skip
                    refine goes_ Try.func28 (by kernel_rfl) rfl #[.slice Ao N co] (by rfl) rfl rfl (by simp only [List.map_toArray, List.map_cons, List.map_nil]; rfl) ?_
                    with_reducible refine (hclip.out _).mono ?_
                    rintro e wq ⟨rfl, rfl⟩
                    refine ⟨_, rfl, ?_⟩
                    refine hK.out _ _ ⟨(hq.out _ (below_step HB7.out hbc)).2.1, (hq.out _ (below_step HB7.out hbc)).2.2.1, (hq.out _ (below_step HB7.out hbc)).2.2.2⟩ (fun hHeld => ?_)
                    clear hK K
                    refine norm_ (a' := ?_) ?_ ?_
                    rotate_left
                    · show Act.put _ (some 61) _ = _
                      simp only [Act.put, List.setIfInBounds_toArray, List.set_cons_zero, List.set_cons_succ, i64_w, i32_w]
                      rfl
                    refine two_ (i := 10) (j := 12) (Ni := some 69) (Nj := some 11) bHPush15 bHPush16 rfl rfl rfl rfl (by kernel_rfl) (by decide) (by decide) (fun K hK => ?_) (fun K hK => ?_)
                    · skip
                      obtain ⟨A8, c8, w6, hrun, hR, hbx⟩ := happ.out (w7.heap.size) hbc hlit
                      refine clip_step (by rfl) (.tmp 61) (.tmp 68) rfl (by rfl) (by rfl) hrun ?_
                      clear hrun
                      have hR := Kd.R_lower hR hbc.size
                      have hbc := Below.trans hbc (Below.mono hbx hbc.size)
                      refine hK.out _ _ ⟨(hq.out _ (below_step HB7.out hbc)).2.1, (hq.out _ (below_step HB7.out hbc)).2.2.1, (hq.out _ (below_step HB7.out hbc)).2.2.2⟩ (fun hHeld => ?_)
                      clear hK K
                      refine norm_ (a' := ?_) ?_ ?_
                      rotate_left
                      · show Act.put _ (some 69) _ = _
                        simp only [Act.put, List.setIfInBounds_toArray, List.set_cons_zero, List.set_cons_succ, i64_w, i32_w]
                        rfl
                      refine p_ 11 (some 70) bHPush17 ?_
                      refine one_ (i := 12) (N := some 11) bHPush9 rfl rfl (by kernel_rfl) (by decide) (fun K hK => ?_)
                      refine value_ (w1 := ?_) (v := ?_) (by rfl) rfl ?_ ?_
                      rotate_left 2
                      · go_simp
                        constructor
                        · rfl
                        · rfl
                      have hne := fun k hk => Nat.ne_of_lt (Kd.R_lt hR k hk)
                      have hR := Kd.R_alloc hR (.cells #[.int .u64 0, .slice none 0 0] 57 (0, 0))
                      have hge := hbc.size
                      have hal := al_new hbc (.cells #[.int .u64 0, .slice none 0 0] 57 (0, 0))
                      have hbc := below_alloc hbc (.cells #[.int .u64 0, .slice none 0 0] 57 (0, 0))
                      refine hK.out _ _ ⟨(hq.out _ (below_step HB7.out hbc)).2.1, (hq.out _ (below_step HB7.out hbc)).2.2.1, (hq.out _ (below_step HB7.out hbc)).2.2.2⟩ (fun hHeld => ?_)
                      clear hK K
                      refine norm_ (a' := ?_) ?_ ?_
                      rotate_left
                      · show Act.put _ (some 11) _ = _
                        simp only [Act.put, List.setIfInBounds_toArray, List.set_cons_zero, List.set_cons_succ, i64_w, i32_w]
                        rfl
                      exact norm_ (by simp only [putAll, Act.put, List.setIfInBounds_toArray, List.set_cons_zero, List.set_cons_succ]) (hCont (A8, c8, w7.heap.size, w6.heap.size) _ ⟨⟨(hq.out _ (below_step HB7.out hbc)).2.1, (hq.out _ (below_step HB7.out hbc)).2.2.1, (hq.out _ (below_step HB7.out hbc)).2.2.2⟩, hR, hal, hne, hge, hbc⟩)
                    · skip
                      refine value_ (w1 := ?_) (v := ?_) (by rfl) rfl ?_ ?_
                      rotate_left 2
                      · go_simp
                        constructor
                        · rfl
                        · rfl
                      have hlit := al_old hbc (.cells #[.int .u64 0, .slice none 0 0] 57 (0, 0)) hlit
                      have hge : w7.heap.size ≤ w7.heap.size + 1 := Nat.le_succ _
                      have hal := (alloc2 w7.drew (.cells #[.int .u64 next, .string s, .int .u64 now] 54 (0, 0)) (.cells #[.int .u64 0, .slice none 0 0] 57 (0, 0))).2.1
                      have hbc := below_alloc hbc (.cells #[.int .u64 0, .slice none 0 0] 57 (0, 0))
                      refine hK.out _ _ ⟨(hq.out _ (below_step HB7.out hbc)).2.1, (hq.out _ (below_step HB7.out hbc)).2.2.1, (hq.out _ (below_step HB7.out hbc)).2.2.2⟩ (fun hHeld => ?_)
                      clear hK K
                      refine norm_ (a' := ?_) ?_ ?_
                      rotate_left
                      · show Act.put _ (some 11) _ = _
                        simp only [Act.put, List.setIfInBounds_toArray, List.set_cons_zero, List.set_cons_succ, i64_w, i32_w]
                        rfl
                      refine one_ (i := 10) (N := some 69) bHPush18 rfl rfl (by kernel_rfl) (by decide) (fun K hK => ?_)
                      obtain ⟨A8, c8, w6, hrun, hR, hbx⟩ := happ.out (w7.heap.size) hbc hlit
                      refine clip_step (by rfl) (.tmp 61) (.tmp 68) rfl (by rfl) (by rfl) hrun ?_
                      clear hrun
                      have hne := fun k hk => (Nat.ne_of_gt (Nat.lt_of_lt_of_le (blk_lt hal) (Kd.R_base hR k hk)))
                      have hal := (hbx.block _ (blk_lt hal)).trans hal
                      have hR := Kd.R_lower hR hbc.size
                      have hbc := Below.trans hbc (Below.mono hbx hbc.size)
                      refine hK.out _ _ ⟨(hq.out _ (below_step HB7.out hbc)).2.1, (hq.out _ (below_step HB7.out hbc)).2.2.1, (hq.out _ (below_step HB7.out hbc)).2.2.2⟩ (fun hHeld => ?_)
                      clear hK K
                      refine norm_ (a' := ?_) ?_ ?_
                      rotate_left
                      · show Act.put _ (some 69) _ = _
                        simp only [Act.put, List.setIfInBounds_toArray, List.set_cons_zero, List.set_cons_succ, i64_w, i32_w]
                        rfl
                      refine p_ 11 (some 70) bHPush9 ?_
                      exact norm_ (by simp only [putAll, Act.put, List.setIfInBounds_toArray, List.set_cons_zero, List.set_cons_succ]) (hCont (A8, c8, w7.heap.size, w7.heap.size + 1) _ ⟨⟨(hq.out _ (below_step HB7.out hbc)).2.1, (hq.out _ (below_step HB7.out hbc)).2.2.1, (hq.out _ (below_step HB7.out hbc)).2.2.2⟩, hR, hal, hne, hge, hbc⟩)
                  · skip
                    refine value_ (w1 := ?_) (v := ?_) (by rfl) rfl ?_ ?_
                    rotate_left 2
                    · go_simp
                      constructor
                      · rfl
                      · rfl
                    have hlit := al_old hbc (.cells #[.int .u64 0, .slice none 0 0] 57 (0, 0)) hlit
                    have hge : w7.heap.size ≤ w7.heap.size + 1 := Nat.le_succ _
                    have hal := (alloc2 w7.drew (.cells #[.int .u64 next, .string s, .int .u64 now] 54 (0, 0)) (.cells #[.int .u64 0, .slice none 0 0] 57 (0, 0))).2.1
                    have hbc := below_alloc hbc (.cells #[.int .u64 0, .slice none 0 0] 57 (0, 0))
                    refine hK.out _ _ ⟨(hq.out _ (below_step HB7.out hbc)).2.1, (hq.out _ (below_step HB7.out hbc)).2.2.1, (hq.out _ (below_step HB7.out hbc)).2.2.2⟩ (fun hHeld => ?_)
                    clear hK K
                    refine norm_ (a' := ?_) ?_ ?_
                    rotate_left
                    · show Act.put _ (some 11) _ = _
                      simp only [Act.put, List.setIfInBounds_toArray, List.set_cons_zero, List.set_cons_succ, i64_w, i32_w]
                      rfl
                    refine one_ (i := 2) (N := some 61) bHPush16 rfl rfl (by kernel_rfl) (by decide) (fun K hK => ?_)
                    refine goes_ Try.func28 (by kernel_rfl) rfl #[.slice Ao N co] (by rfl) rfl rfl (by simp only [List.map_toArray, List.map_cons, List.map_nil]; rfl) ?_
                    with_reducible refine (hclip.out _).mono ?_
                    rintro e wq ⟨rfl, rfl⟩
                    refine ⟨_, rfl, ?_⟩
                    refine hK.out _ _ ⟨(hq.out _ (below_step HB7.out hbc)).2.1, (hq.out _ (below_step HB7.out hbc)).2.2.1, (hq.out _ (below_step HB7.out hbc)).2.2.2⟩ (fun hHeld => ?_)
                    clear hK K
                    refine norm_ (a' := ?_) ?_ ?_
                    rotate_left
                    · show Act.put _ (some 61) _ = _
                      simp only [Act.put, List.setIfInBounds_toArray, List.set_cons_zero, List.set_cons_succ, i64_w, i32_w]
                      rfl
                    refine one_ (i := 10) (N := some 69) bHPush18 rfl rfl (by kernel_rfl) (by decide) (fun K hK => ?_)
                    obtain ⟨A8, c8, w6, hrun, hR, hbx⟩ := happ.out (w7.heap.size) hbc hlit
                    refine clip_step (by rfl) (.tmp 61) (.tmp 68) rfl (by rfl) (by rfl) hrun ?_
                    clear hrun
                    have hne := fun k hk => (Nat.ne_of_gt (Nat.lt_of_lt_of_le (blk_lt hal) (Kd.R_base hR k hk)))
                    have hal := (hbx.block _ (blk_lt hal)).trans hal
                    have hR := Kd.R_lower hR hbc.size
                    have hbc := Below.trans hbc (Below.mono hbx hbc.size)
                    refine hK.out _ _ ⟨(hq.out _ (below_step HB7.out hbc)).2.1, (hq.out _ (below_step HB7.out hbc)).2.2.1, (hq.out _ (below_step HB7.out hbc)).2.2.2⟩ (fun hHeld => ?_)
                    clear hK K
                    refine norm_ (a' := ?_) ?_ ?_
                    rotate_left
                    · show Act.put _ (some 69) _ = _
                      simp only [Act.put, List.setIfInBounds_toArray, List.set_cons_zero, List.set_cons_succ, i64_w, i32_w]
                      rfl
                    refine p_ 11 (some 70) bHPush9 ?_
                    exact norm_ (by simp only [putAll, Act.put, List.setIfInBounds_toArray, List.set_cons_zero, List.set_cons_succ]) (hCont (A8, c8, w7.heap.size, w7.heap.size + 1) _ ⟨⟨(hq.out _ (below_step HB7.out hbc)).2.1, (hq.out _ (below_step HB7.out hbc)).2.2.1, (hq.out _ (below_step HB7.out hbc)).2.2.2⟩, hR, hal, hne, hge, hbc⟩)
                · skip
                  refine value_ (w1 := ?_) (v := ?_) (by rfl) rfl ?_ ?_
                  rotate_left 2
                  · go_simp
                    constructor
                    · rfl
                    · rfl
                  have hbc := (Below.refl w7.heap.size w7).drew
                  have hge := Nat.le_refl w7.heap.size
                  have hal := heap_alloc_new w7.drew (.cells #[.int .u64 0, .slice none 0 0] 57 (0, 0))
                  have hbc := below_alloc hbc (.cells #[.int .u64 0, .slice none 0 0] 57 (0, 0))
                  refine hK.out _ _ ⟨(hq.out _ (below_step HB7.out hbc)).2.1, (hq.out _ (below_step HB7.out hbc)).2.2.1, (hq.out _ (below_step HB7.out hbc)).2.2.2⟩ (fun hHeld => ?_)
                  clear hK K
                  refine norm_ (a' := ?_) ?_ ?_
                  rotate_left
                  · show Act.put _ (some 11) _ = _
                    simp only [Act.put, List.setIfInBounds_toArray, List.set_cons_zero, List.set_cons_succ, i64_w, i32_w]
                    rfl
                  refine two_ (i := 2) (j := 9) (Ni := some 61) (Nj := some 68) bHPush14 bHPush19 rfl rfl rfl rfl (by kernel_rfl) (by decide) (by decide) (fun K hK => ?_) (fun K hK => ?_)
                  · skip
                    refine goes_ Try.func28 (by kernel_rfl) rfl #[.slice Ao N co] (by rfl) rfl rfl (by simp only [List.map_toArray, List.map_cons, List.map_nil]; rfl) ?_
                    with_reducible refine (hclip.out _).mono ?_
                    rintro e wq ⟨rfl, rfl⟩
                    refine ⟨_, rfl, ?_⟩
                    refine hK.out _ _ ⟨(hq.out _ (below_step HB7.out hbc)).2.1, (hq.out _ (below_step HB7.out hbc)).2.2.1, (hq.out _ (below_step HB7.out hbc)).2.2.2⟩ (fun hHeld => ?_)
                    clear hK K
                    refine norm_ (a' := ?_) ?_ ?_
                    rotate_left
                    · show Act.put _ (some 61) _ = _
                      simp only [Act.put, List.setIfInBounds_toArray, List.set_cons_zero, List.set_cons_succ, i64_w, i32_w]
                      rfl
                    refine one_ (i := 9) (N := some 68) bHPush16 rfl rfl (by kernel_rfl) (by decide) (fun K hK => ?_)
                    refine value_ (w1 := ?_) (v := ?_) (by rfl) rfl ?_ ?_
                    rotate_left 2
                    · go_simp
                      constructor
                      · rfl
                      · rfl
                    have hal := al_old hbc (.cells #[.int .u64 next, .string s, .int .u64 now] 54 (0, 0)) hal
                    have hlit := (alloc2 w7.drew (.cells #[.int .u64 0, .slice none 0 0] 57 (0, 0)) (.cells #[.int .u64 next, .string s, .int .u64 now] 54 (0, 0))).2.1
                    have hbc := below_alloc hbc (.cells #[.int .u64 next, .string s, .int .u64 now] 54 (0, 0))
                    refine hK.out _ _ ⟨(hq.out _ (below_step HB7.out hbc)).2.1, (hq.out _ (below_step HB7.out hbc)).2.2.1, (hq.out _ (below_step HB7.out hbc)).2.2.2⟩ (fun hHeld => ?_)
                    clear hK K
                    refine norm_ (a' := ?_) ?_ ?_
                    rotate_left
                    · show Act.put _ (some 68) _ = _
                      simp only [Act.put, List.setIfInBounds_toArray, List.set_cons_zero, List.set_cons_succ, i64_w, i32_w]
                      rfl
                    refine one_ (i := 10) (N := some 69) bHPush18 rfl rfl (by kernel_rfl) (by decide) (fun K hK => ?_)
                    obtain ⟨A8, c8, w6, hrun, hR, hbx⟩ := happ.out (w7.heap.size + 1) hbc hlit
                    refine clip_step (by rfl) (.tmp 61) (.tmp 68) rfl (by rfl) (by rfl) hrun ?_
                    clear hrun
                    have hne := fun k hk => (Nat.ne_of_gt (Nat.lt_of_lt_of_le (blk_lt hal) (Kd.R_base hR k hk)))
                    have hal := (hbx.block _ (blk_lt hal)).trans hal
                    have hR := Kd.R_lower hR hbc.size
                    have hbc := Below.trans hbc (Below.mono hbx hbc.size)
                    refine hK.out _ _ ⟨(hq.out _ (below_step HB7.out hbc)).2.1, (hq.out _ (below_step HB7.out hbc)).2.2.1, (hq.out _ (below_step HB7.out hbc)).2.2.2⟩ (fun hHeld => ?_)
                    clear hK K
                    refine norm_ (a' := ?_) ?_ ?_
                    rotate_left
                    · show Act.put _ (some 69) _ = _
                      simp only [Act.put, List.setIfInBounds_toArray, List.set_cons_zero, List.set_cons_succ, i64_w, i32_w]
                      rfl
                    refine p_ 11 (some 70) bHPush9 ?_
                    exact norm_ (by simp only [putAll, Act.put, List.setIfInBounds_toArray, List.set_cons_zero, List.set_cons_succ]) (hCont (A8, c8, w7.heap.size + 1, w7.heap.size) _ ⟨⟨(hq.out _ (below_step HB7.out hbc)).2.1, (hq.out _ (below_step HB7.out hbc)).2.2.1, (hq.out _ (below_step HB7.out hbc)).2.2.2⟩, hR, hal, hne, hge, hbc⟩)
                  · skip
                    refine value_ (w1 := ?_) (v := ?_) (by rfl) rfl ?_ ?_
                    rotate_left 2
                    · go_simp
                      constructor
                      · rfl
                      · rfl
                    have hal := al_old hbc (.cells #[.int .u64 next, .string s, .int .u64 now] 54 (0, 0)) hal
                    have hlit := (alloc2 w7.drew (.cells #[.int .u64 0, .slice none 0 0] 57 (0, 0)) (.cells #[.int .u64 next, .string s, .int .u64 now] 54 (0, 0))).2.1
                    have hbc := below_alloc hbc (.cells #[.int .u64 next, .string s, .int .u64 now] 54 (0, 0))
                    refine hK.out _ _ ⟨(hq.out _ (below_step HB7.out hbc)).2.1, (hq.out _ (below_step HB7.out hbc)).2.2.1, (hq.out _ (below_step HB7.out hbc)).2.2.2⟩ (fun hHeld => ?_)
                    clear hK K
                    refine norm_ (a' := ?_) ?_ ?_
                    rotate_left
                    · show Act.put _ (some 68) _ = _
                      simp only [Act.put, List.setIfInBounds_toArray, List.set_cons_zero, List.set_cons_succ, i64_w, i32_w]
                      rfl
                    refine one_ (i := 2) (N := some 61) bHPush16 rfl rfl (by kernel_rfl) (by decide) (fun K hK => ?_)
                    refine goes_ Try.func28 (by kernel_rfl) rfl #[.slice Ao N co] (by rfl) rfl rfl (by simp only [List.map_toArray, List.map_cons, List.map_nil]; rfl) ?_
                    with_reducible refine (hclip.out _).mono ?_
                    rintro e wq ⟨rfl, rfl⟩
                    refine ⟨_, rfl, ?_⟩
                    refine hK.out _ _ ⟨(hq.out _ (below_step HB7.out hbc)).2.1, (hq.out _ (below_step HB7.out hbc)).2.2.1, (hq.out _ (below_step HB7.out hbc)).2.2.2⟩ (fun hHeld => ?_)
                    clear hK K
                    refine norm_ (a' := ?_) ?_ ?_
                    rotate_left
                    · show Act.put _ (some 61) _ = _
                      simp only [Act.put, List.setIfInBounds_toArray, List.set_cons_zero, List.set_cons_succ, i64_w, i32_w]
                      rfl
                    refine one_ (i := 10) (N := some 69) bHPush18 rfl rfl (by kernel_rfl) (by decide) (fun K hK => ?_)
                    obtain ⟨A8, c8, w6, hrun, hR, hbx⟩ := happ.out (w7.heap.size + 1) hbc hlit
                    refine clip_step (by rfl) (.tmp 61) (.tmp 68) rfl (by rfl) (by rfl) hrun ?_
                    clear hrun
                    have hne := fun k hk => (Nat.ne_of_gt (Nat.lt_of_lt_of_le (blk_lt hal) (Kd.R_base hR k hk)))
                    have hal := (hbx.block _ (blk_lt hal)).trans hal
                    have hR := Kd.R_lower hR hbc.size
                    have hbc := Below.trans hbc (Below.mono hbx hbc.size)
                    refine hK.out _ _ ⟨(hq.out _ (below_step HB7.out hbc)).2.1, (hq.out _ (below_step HB7.out hbc)).2.2.1, (hq.out _ (below_step HB7.out hbc)).2.2.2⟩ (fun hHeld => ?_)
                    clear hK K
                    refine norm_ (a' := ?_) ?_ ?_
                    rotate_left
                    · show Act.put _ (some 69) _ = _
                      simp only [Act.put, List.setIfInBounds_toArray, List.set_cons_zero, List.set_cons_succ, i64_w, i32_w]
                      rfl
                    refine p_ 11 (some 70) bHPush9 ?_
                    exact norm_ (by simp only [putAll, Act.put, List.setIfInBounds_toArray, List.set_cons_zero, List.set_cons_succ]) (hCont (A8, c8, w7.heap.size + 1, w7.heap.size) _ ⟨⟨(hq.out _ (below_step HB7.out hbc)).2.1, (hq.out _ (below_step HB7.out hbc)).2.2.1, (hq.out _ (below_step HB7.out hbc)).2.2.2⟩, hR, hal, hne, hge, hbc⟩)
              rintro ⟨A8, c8, gl8, g11⟩ w8 ⟨hs8, hR8, hal8, hne8, hge8, hbc8⟩
              have hHeld : w8.cell? ⟨w.heap.size, 1, none⟩ = some (.int .u64 now) ∧ w8.cell? ⟨w.heap.size, 2, none⟩ = some (.int .u64 next) ∧ w8.cell? ⟨w.heap.size + 1, 0, none⟩ = some (.string s) := hs8
              refine norm_ (a' := ?_) ?_ ?_
              rotate_left
              · simp only [putAll, Act.put, List.setIfInBounds_toArray, List.set_cons_zero, List.set_cons_succ]
                rfl
              refine last_ (i := 13) (N := none) bHPush20 rfl rfl (by kernel_rfl) (by decide) (fun K hK => ?_)
              refine skip_storeBox (by rfl) rfl 57 (.tmp 11) (.tmp 70) rfl (.agg #[.int .u64 u, .slice A8 (N + 1) c8]) [.int .u64 u, .slice A8 (N + 1) c8] rfl rfl rfl (by kernel_rfl) (by simp [Value.oneCell']) hal8 rfl ?_
              intro w9 hK9 hg9 hs9
              refine hK.out _ _ ?_
              clear hK K
              refine done_ (by kernel_rfl) ?_
              have hb9 : Below w7.heap.size w7 w9 := hbc8.grown hg9 hbc8.size (fun k hk => by cases hk; exact hge8)
              have hR9 : Kd.R k54 54 w9 w7.heap.size (fun k => some k = (Value.slice A8 (N + 1) c8).ownBlock) (.slice A8 (N + 1) c8) (old ++ [mm]) := Kd.R_grown (Kd.R_tight rfl hR8) hg9 (fun k hk e => by cases e; exact hne8 _ hk.symm rfl)
              have hz7 : w3.heap.size ≤ w7.heap.size := HB7.out.size
              have hz3 : w2.heap.size < w3.heap.size := blk_lt hK3
              have hz9 : w7.heap.size ≤ w9.heap.size := hb9.size
              have HB9 := Aside0.mk (below_step HB7.out hb9)
              have HB9w := Aside0.mk (below_step hB3.out HB9.out)
              obtain ⟨w0, hw0⟩ : ∃ w0, blank (bs S w9) w.heap.size w2.heap.size = w0 := ⟨_, rfl⟩
              obtain ⟨mx, hmx⟩ : ∃ mx : S57, mx = { f0 := u, f1 := old ++ [mm] } := ⟨_, rfl⟩
              have hK0 : k57.K w0 mx [.int .u64 u, .slice A8 (N + 1) c8] := by rw [← hw0, hmx]; exact blank_K57 (bs_R hR9 (fun k hk => by have := hS.out k hk; omega)) (by omega) (by omega)
              have h0C : (kr w0).C w9 (some ad) l0.length l0 := kr_sees (by rw [← hw0]; exact blank_sees (by rw [bs_size]; exact bs_below HB9w.out) (by rw [bs_size]; exact Nat.le_refl _) (by rw [bs_size]; omega)) (C_krB (sees_trans bs_sees (sees_below HB9w.out)) hrS.out)
              have hseen : ∀ W, Keep2 w9 W w.heap.size w2.heap.size → Sees w0 (bs S W) := fun W hW => by rw [← hw0]; exact sees_blank (bs_keep2 hW)
              have hK39 := (HB9.out.block _ (blk_lt hK3)).trans hK3
              have hK139 := (HB9.out.block _ (blk_lt hK13)).trans hK13
              have hg3s : w.heap.size < w9.heap.size := blk_lt hK139
              have hg6s : w2.heap.size < w9.heap.size := blk_lt hK39
              have hg9s : g11 < w9.heap.size := blk_lt hK9
              have hge11 : w3.heap.size ≤ g11 := Nat.le_trans hz7 hge8
              have hcl := Aside0.mk (clone_any (some ad) c0 l0 w0 w9 h0C hc0 hlen)
              replace hseen := Lib.hid hseen
              replace hK0 := Lib.hid hK0
              replace hmx := Lib.hid hmx
              replace hw0 := Lib.hid hw0
              have hzz := hz
              replace hz := Lib.hid (And.intro hz7 (And.intro hz3 (And.intro hz9 (And.intro hg3s (And.intro hg6s (And.intro hg9s hge11))))))
              clear hz7 hz3 hz9 hg3s hg6s hg9s hge11 hR9 hR8 hne8 hge8 hbc8 hb9 h0C hs8 hHeld hg9 hs9 hal8 z0 z1 z2 z3 happ hclip
              obtain ⟨z0, z1, z2, z3⟩ := hq.out _ HB9.out
              go_wp2_with fail
              refine hcl.out.mono ?_; rintro e_ w10 ⟨v, rfl, hR10, hb10⟩
              clear hcl z0 z1 z2 z3
              have hK1310 := (hb10.block _ hz.out.2.2.2.1).trans hK139
              obtain ⟨g, c1, rfl, hg0, hg1, _⟩ := Kd.R_form hR10 (by omega)
              have hwg : w.heap.size < w2.heap.size := by omega
              have hk10 : Keep2 w9 w10 w.heap.size w.heap.size := keep2_below (keep2_refl _ _ _) hb10 (Nat.le_refl _)
              have hK910 := (hb10.block _ hz.out.2.2.2.2.2.1).trans hK9
              have hbw10 := below_step HB9w.out hb10
              have hnw : (next + 1) % 18446744073709551616 = next + 1 := by omega
              go_wp2_with (first | ((with_reducible refine gate_store (t := 22) (p := 74) rfl ?_); go_loud (refine wpList_storeField rfl rfl 22 (.tmp 74) (.tmp 73) rfl 0 (.slice (some ⟨g, 0, none⟩) l0.length c1) #[.slice (some ⟨g, 0, none⟩) l0.length c1, .int .u64 now, .int .u64 next] rfl rfl rfl (by kernel_rfl) rfl hK1310 (Nat.le_of_ble_eq_true rfl) rfl ?_; intro w11 hK11 hg11 hs11; have hK911 := (hg11.block _ (blk_lt hK910) (fun e => by injection e with e; have := hz.out; omega)).trans hK910; have hR11 := Kd.R_grown (Kd.R_tight rfl hR10) hg11 (fun k hk e => by injection e with e; have := Kd.R_base hR10 k hk.symm; have := hz.out; omega); have hk11 := keep2_grown hk10 hg11 (.inl rfl); have hbw11 := hbw10.grown hg11 hbw10.size (fun k hk => by cases hk; exact Nat.le_refl _); clear hs11; obtain ⟨z0, z1, z2⟩ := box3 hK11; have y0 := (blk_cell hK911 0).trans rfl; have y1 := (blk_cell hK911 1).trans rfl; obtain ⟨ce, hcel, hceM, hcec, _⟩ := Kd.R_elem hR11 z57 (i : Int) (by omega) (by omega); obtain ⟨Ae, cel, rfl, _, _⟩ := k57_open (w := w0) hceM)) | ((with_reducible refine gate_store (t := 57) (p := 80) rfl ?_); go_loud (refine Kd.R_store (kr w0) (w0 := w11) w9.heap.size rfl rfl 57 (.tmp 80) (.tmp 79) rfl 57 (i : Int) 0 l0 mx (.agg #[.int .u64 u, .slice A8 (N + 1) c8]) [.int .u64 u, .slice A8 (N + 1) c8] _ _ (fun _ => False) rfl (by rw [Int.toNat_natCast]; rfl) rfl rfl (by kernel_rfl) (by simp [Value.oneCell']) hR11 (by omega) (by omega) rfl hcec (by show 0 + 2 ≤ 2; omega) hK0.out (fun _ h => h.elim) (Below.refl _ _) ?_; intro w12 hR12 hB12 hg12; have hk12 := keep2_grown hk11 hg12 (.inr (.inr hg0)); have hbw12 := hbw11.grown hg12 hbw11.size (fun k hk => by cases hk; have := hz.out; omega); have hK12 := (hg12.block _ (blk_lt hK11) (fun e => by injection e with e; have := hz.out; omega)).trans hK11; clear y0 y1 z0 z1 z2 hcec hK911; obtain ⟨z0, z1, z2⟩ := box3 hK12)) | ((with_reducible refine gate_store (t := 23) (p := 91) rfl ?_); go_loud (refine wpList_storeField rfl rfl 23 (.tmp 91) (.tmp 90) rfl 2 (.int .u64 (next + 1)) #[.slice (some ⟨g, 0, none⟩) l0.length c1, .int .u64 now, .int .u64 (next + 1)] rfl rfl rfl (by kernel_rfl) rfl hK12 (Nat.le_of_ble_eq_true rfl) rfl ?_; intro w13 hK13 hg13 hs13; have hR13 := Kd.R_grown hR12 hg13 (fun k hk e => by injection e with e; have := Kd.R_base hR12 k hk.symm; have := hz.out; omega); clear z0 z1 z2; have hk13 := keep2_grown hk12 hg13 (.inl rfl); have hbw13 := hbw12.grown hg13 hbw12.size (fun k hk => by cases hk; exact Nat.le_refl _); clear hs13; obtain ⟨z0, z1, z2⟩ := box3 hK13)) | ((with_reducible refine gate_store (t := 25) (p := 6) rfl ?_); go_loud (refine wpList_storeBox rfl rfl 25 (.tmp 6) (.tmp 92) rfl (.agg #[.slice (some ⟨g, 0, none⟩) l0.length c1, .int .u64 now, .int .u64 (next + 1)]) [.slice (some ⟨g, 0, none⟩) l0.length c1, .int .u64 now, .int .u64 (next + 1)] rfl rfl rfl (by kernel_rfl) (by simp [Value.oneCell']) ((hk13.2 _ hz.out.2.2.2.2.1 (fun e => by omega) (fun e => by omega)).trans hK39) rfl ?_; intro w14 hK14 hg14 hs14; clear hs14 z0 z1 z2; obtain ⟨z0, z1, z2⟩ := box3 hK14)))
              have hk14 := keep2_grown (keep2_weak hk13 w2.heap.size) hg14 (.inr (.inl rfl))
              have hR14 := Kd.R_grown hR13 hg14 (fun k hk e => by injection e with e; have := Kd.R_base hR13 k hk.symm; have := hz.out; omega)
              obtain ⟨hlf, hcf, hCf⟩ := Kd.R_reads' (bs_R hR14 (fun k hk => by have := hS.out k hk; have := hz.out; omega))
              refine bodyPost_ret (v := .tuple #[rv (some ⟨g, 0, none⟩) l0.length c1 now (next + 1), .int .i64 0]) (by simp [results, Try.results9, go_sem, z0, z1, z2]) rfl ?_
              rw [Int.toNat_natCast] at hlf hCf
              refine ⟨hEnd.out _ _ (.inr (.inr (.inr (.inr ⟨hzz, hh, by simpa using hnf.out, hx, l0.set i mx, (some ⟨g, 0, none⟩), c1, by rw [hmx.out, hmm.out]; first | rfl | simp, by rw [List.length_set], by rw [List.length_set]; exact hcf, sees_kr (hseen.out _ hk14) hCf⟩)))), hbw13.grown hg14 hbw13.size (fun k hk => by cases hk; omega)⟩
      · have hzi : (1400 : Int) < (s.size : Int) := by omega
        have hfin : ∀ W, Hid (PushE l0 now next u s (.returned (.tuple #[zerR, .int .i64 2])) W) := fun W => Lib.hid (hEnd.out _ W (.inl ⟨by omega, rfl⟩))
        go_wp2_with ((with_reducible refine gate_store (t := 25) (p := 6) rfl ?_); go_loud (refine wpList_storeBox rfl rfl 25 (.tmp 6) (.tmp 33) rfl zerR [.slice none 0 0, .int .u64 0, .int .u64 0] rfl rfl rfl (by kernel_rfl) (by simp [Value.oneCell']) hK35 rfl ?_); intro wz hKz hgz hsz)
        have hBz : Below w.heap.size w wz := (below_step hB3.out hB5.out).grown hgz (below_step hB3.out hB5.out).size (fun k hk => by cases hk; omega)
        obtain ⟨y0, y1, y2⟩ := box3 hKz
        refine bodyPost_ret (v := .tuple #[zerR, .int .i64 2]) (by simp [results, Try.results9, go_sem, y0, y1, y2]) rfl ?_
        exact ⟨(hfin _).out, hBz⟩
theorem pushE_sees {l : List S57} {now next u : Int} {s : ByteArray} {e : Ending} {w w' : World} (hs : Sees w w') (h : PushE l now next u s e w) : PushE l now next u s e w' := by
  rcases h with h | ⟨h1, i, is, old, h2, h3, h | h | h | h | ⟨a, b, c, d, lp, A, c', h4, h5, h6, h7⟩⟩
  · exact .inl h
  · exact .inr ⟨h1, i, is, old, h2, h3, .inl h⟩
  · exact .inr ⟨h1, i, is, old, h2, h3, .inr (.inl h)⟩
  · exact .inr ⟨h1, i, is, old, h2, h3, .inr (.inr (.inl h))⟩
  · exact .inr ⟨h1, i, is, old, h2, h3, .inr (.inr (.inr (.inl h)))⟩
  · exact .inr ⟨h1, i, is, old, h2, h3, .inr (.inr (.inr (.inr ⟨a, b, c, d, lp, A, c', h4, h5, h6, sees_B57 hs h7⟩)))⟩
theorem push_calls (A0 : Option Addr) (c0 : Nat) (l0 : List S57) (now next u : Int) (s : ByteArray) (w : World) (hr0 : Kd.C k57 w A0 l0.length l0) (hc0 : l0.length ≤ c0) (hlen : l0.length ≤ 1000000) (hwf : wfB l0) (hnow : 0 ≤ now ∧ now ≤ 18446744073709551615) (hnext : 0 ≤ next) :
    Calls Try.prog 9 #[rv A0 l0.length c0 now next, .int .u64 u, .string s] w fun e w' => PushE l0 now next u s e w' ∧ Below w.heap.size w w' :=
  (push_callsS (fun _ => False) A0 c0 l0 now next u s w (fun _ h => h.elim) (sees_B57 bs_empty hr0) hc0 hlen hwf hnow hnext).mono fun e w' h => ⟨pushE_sees bs_sees h.1, h.2⟩
end Go.Proofs.Ytbmfcikjhnnnbaa.Q
