/- A list at work: cook.add, part; a loop over a function, its call left open.
   Conditions: the list is read as terms whose numbers are of 64 bits. -/
import Derived.Test.YtenmmeehgnkcpaaHStep
import Derived.LoopIn
import Derived.LoopNIn
import Derived.OwnWalkIn
import Derived.RangeFuncBound
import Derived.RangeFuncBox
import Derived.RangeFuncCalls
import Derived.RangeFuncLeaves
import Derived.RangeFuncNested
import Derived.TacticsInMore
import Derived.Test.YtenmmeehgnkcpaaHAdd
import Derived.WalkKit
namespace Go.RangeOpen
open Go Go.RowKit

/-- Where a round's body may be left: on with the loop, or out of it by a jump. -/
def RoundEnd (l : Nat) (rdy busy : Obj) (fin : Code → Obj) (R : Ending → World → Prop) : Exit → Act → World → Prop
  | .normal, _, W => W.heap[l]? = some busy ∧ R (.returned (.bool true)) (W.putObj l rdy)
  | .ret, _, W => W.heap[l]? = some busy ∧ R (.returned (.bool false)) (W.putObj l (fin .ret))
  | .exit id, _, W => W.heap[l]? = some busy ∧ R (.returned (.bool false)) (W.putObj l (fin (.exit id)))
  | .goto t, _, W => W.heap[l]? = some busy ∧ R (.returned (.bool false)) (W.putObj l (fin (.goto t)))
  | .panic _, _, _ => False
  | .outgrown, _, _ => False

variable {F : Fence} {n : Nat} {P : Program}

theorem rangeFunc_open {g : Operand} {ps : Array Tmp} {assign body : Code} {Q : Exit → Act → World → Prop} {a : Act} {w : World}
    (hro : F.round = none) (h1 : 1 ≤ n) {gf : Nat} {lb : Array Value} (hg : a.eval g = .func (.func gf) #[] lb) (hFg : F.fn gf) (eg : ∀ args w, (callFunc gf args).run P w = .ok (.enter gf args) w)
    (h : ∀ (rdy busy : Obj) (fin : Code → Obj), (rdy.isCells = false ∧ rdy.isWalk = false) → (busy.isCells = false ∧ busy.isWalk = false) → (∀ c, (fin c).isCells = false ∧ (fin c).isWalk = false) →
      (∀ (args : Array Value) (W : World) (R : Ending → World → Prop), args.size = ps.size → W.heap[w.heap.size + 1]? = some rdy →
        assign.wpIn (F.inRound (w.heap.size + 1)) (n - 1 - 1) P (Exit.then (fun a' W' => W'.heap[w.heap.size + 1]? = some rdy ∧ body.wpIn (F.inRound (w.heap.size + 1)) (n - 1 - 1) P (RoundEnd (w.heap.size + 1) rdy busy fin R) a' (W'.putObj (w.heap.size + 1) busy)) (fun _ _ _ => False))
          { tmps := (ps.zip args).foldl (fun t (p, v) => t.setIfInBounds p v) a.tmps, defers := [] } W →
        YieldAt F (n - 1 - 1) P (w.heap.size + 1) args W R) →
      CallsIn F (n - 1) P gf (#[.func (.yield (w.heap.size + 1)) #[] #[]] ++ lb) ((w.alloc (.deferred (some []))).alloc rdy) fun e W2 => (∃ v, e = .returned v) ∧
        ((W2.heap[w.heap.size + 1]? = some rdy ∧ ∀ o : Obj, o.isCells = false → o.isWalk = false → Q .normal { a with defers := { target := .collected w.heap.size, args := #[] } :: a.defers } (W2.putObj (w.heap.size + 1) o)) ∨
         (∃ c : Code, W2.heap[w.heap.size + 1]? = some (fin c) ∧ ∀ o : Obj, o.isCells = false → o.isWalk = false → c.wpIn F n P Q { a with defers := { target := .collected w.heap.size, args := #[] } :: a.defers } (W2.putObj (w.heap.size + 1) o)))) :
    (Code.rangeFunc g ps assign body).wpIn F n P Q a w := by
  refine wpIn_rangeFunc fun fn hfn => ?_
  obtain ⟨rec, hrec⟩ : ∃ rec : LoopState → Option Code → Loop, rec = fun st pe => { state := st, pending := pe, fn, tmps := a.tmps, params := ps, assign, body, defers := w.heap.size } := ⟨_, rfl⟩
  refine ⟨w.heap.size + 1, [{ target := .collected w.heap.size, args := #[] }], (w.alloc (.deferred (some []))).alloc (.loop (rec .ready none)), { target := .fn (.func gf) lb, args := #[.func (.yield (w.heap.size + 1)) #[] #[]] },
    (w.alloc (.deferred (some []))).alloc (.loop (rec .ready none)), gf, #[.func (.yield (w.heap.size + 1)) #[] #[]] ++ lb, (w.alloc (.deferred (some []))).alloc (.loop (rec .ready none)), by rw [hro, hrec]; exact run_enterLoop_outer _ _ _ _ _, ?_, ?_, ?_, fun _ => h1, ?_⟩
  · simp only [resolve, hg]
    simp [go_sem]
  · intro f' hf'
    simp [Target.leads] at hf'
    exact hf' ▸ hFg
  · simp [invoke, go_sem, eg]
  · refine (h (.loop (rec .ready none)) (.loop (rec .busy none)) (fun c => .loop (rec .done (some c))) ⟨rfl, rfl⟩ ⟨rfl, rfl⟩ (fun _ => ⟨rfl, rfl⟩) ?_).mono ?_
    · intro args W R hs hl hx
      have hy := run_yield (P := P) (args := args) hl (by rw [hrec]; exact hs)
      rw [hrec] at hy
      refine ⟨fn, _, assign, body, hy, roundIn_of_wpIn hfn (wpIn_mono hx ?_)⟩
      intro e a' W' hp
      cases e with
      | normal =>
        obtain ⟨hl', hb⟩ := hp
        have hbr := run_beginRound (P := P) hl' (by rw [hrec])
        refine ⟨_, hbr, ?_⟩
        have hb' : body.wpIn (F.inRound (w.heap.size + 1)) (n - 1 - 1) P (RoundEnd (w.heap.size + 1) (.loop (rec .ready none)) (.loop (rec .busy none)) (fun c => .loop (rec .done (some c))) R) a' (W'.putObj (w.heap.size + 1) (.loop { rec .ready none with state := .busy })) := by
          rw [hrec] at hb ⊢
          exact hb
        refine wpIn_mono hb' ?_
        have hend : ∀ (j : Option Code) (W3 : World), W3.heap[w.heap.size + 1]? = some (.loop (rec .busy none)) → (Instr.endRound (w.heap.size + 1) j).run P W3 = .ok (.bool j.isNone) (W3.putObj (w.heap.size + 1) (.loop (rec (if j.isNone then .ready else .done) j))) := fun j W3 h3 => by
          have := run_endRound (P := P) j h3
          rw [hrec] at this ⊢
          exact this
        intro e3 a3 W3 h3
        cases e3 with
        | normal => exact ⟨_, _, hend none W3 h3.1, h3.2⟩
        | ret => exact ⟨_, _, hend (some .ret) W3 h3.1, h3.2⟩
        | exit id => exact ⟨_, _, hend (some (.exit id)) W3 h3.1, h3.2⟩
        | goto t => exact ⟨_, _, hend (some (.goto t)) W3 h3.1, h3.2⟩
        | panic c => exact h3
        | outgrown => exact h3
      | ret => exact hp
      | exit id => exact hp
      | goto t => exact hp
      | panic c => exact hp
      | outgrown => exact hp
    · rintro e W2 ⟨⟨v, rfl⟩, ⟨hl, hq⟩ | ⟨c, hl, hq⟩⟩
      · exact ⟨none, _, by have := run_endLoop (P := P) hl (by rw [hrec]; simp); rw [hrec] at this; exact this, hq _ rfl rfl⟩
      · exact ⟨some c, _, by have := run_endLoop (P := P) hl (by rw [hrec]; simp); rw [hrec] at this; exact this, hq _ rfl rfl⟩
end Go.RangeOpen
namespace Go.Proofs.Ytenmmeehgnkcpaa.Q
open Go.RowKit Go.Proofs.YtenmmeehgnkcpaaW.PrintWords Go.Proofs.YtenmmeehgnkcpaaW.PrintLast Go.Proofs.YtenmmeehgnkcpaaW.PrintMore
set_option linter.unusedVariables false
set_option linter.unusedSimpArgs false
abbrev bHCook0 : Array Bool := #[false, false, false, false, false, false, false, false, false, false, false, false, false]
abbrev bHCook1 : Array Bool := #[true, false, false, false, false, false, false, false, false, false, false, false, false]
abbrev bHCook2 : Array Bool := #[true, true, false, false, false, false, false, false, false, false, false, false, false]
abbrev bHCook3 : Array Bool := #[true, true, true, false, false, false, false, false, false, false, false, false, false]
abbrev bHCook4 : Array Bool := #[true, true, true, true, false, false, false, false, false, false, false, false, false]
abbrev bHCook5 : Array Bool := #[true, true, true, true, true, false, false, false, false, false, false, false, false]
abbrev bHCook6 : Array Bool := #[true, true, true, true, true, true, false, false, false, false, false, false, false]
abbrev bHCook7 : Array Bool := #[true, true, true, true, true, true, true, false, false, false, false, false, false]
abbrev bHCook8 : Array Bool := #[true, true, true, true, true, true, true, true, false, false, false, false, false]
abbrev bHCook9 : Array Bool := #[true, true, true, true, true, true, true, true, true, false, false, false, false]
abbrev bHCook10 : Array Bool := #[true, true, true, true, true, true, true, true, true, true, false, false, false]
abbrev bHCook11 : Array Bool := #[true, true, true, true, true, true, true, true, true, true, true, false, false]
abbrev bHCook12 : Array Bool := #[true, true, true, true, true, true, true, true, true, true, true, true, false]
abbrev bHCook13 : Array Bool := #[true, true, true, true, true, true, true, true, true, true, true, true, true]

/-- A write into a block that holds no number leaves a row of terms. -/
theorem C28_box {W W' : World} {A : Option Addr} {n : Nat} {l : List S28} {g t : Nat} {cur : Array Value} (hC : k28.C W A n l) (hg : W.heap[g]? = some (.cells cur t (0, 0))) (hv : ∀ v ∈ cur, ∀ k i, v ≠ .int k i) (hb : W.grownBy W' (some g)) : k28.C W' A n l := by
  refine ⟨hC.1, hC.2.1, fun hn => ?_⟩
  obtain ⟨ad, e, hc⟩ := hC.2.2 hn
  refine ⟨ad, e, fun j p hj => ?_⟩
  obtain ⟨c, hs, hr, hcell⟩ := hc j p hj
  obtain rfl := k28_open hr
  refine ⟨_, hs, k28_mk _ _, fun i u hu => ?_⟩
  have h := hcell i u hu
  have hint : ∃ k z, u = .int k z := by
    match i, hu with
    | 0, hu => exact ⟨_, _, (Option.some.inj hu).symm⟩
    | 1, hu => exact ⟨_, _, (Option.some.inj hu).symm⟩
    | 2, hu => exact ⟨_, _, (Option.some.inj hu).symm⟩
    | 3, hu => exact ⟨_, _, (Option.some.inj hu).symm⟩
  obtain ⟨k, z, rfl⟩ := hint
  generalize ad.add (j * k28.sz + i) = q at h ⊢
  have hne : q.block ≠ g := fun e => by
    unfold World.cell? at h
    rw [e, hg] at h
    have h' : (if q.spot.isSome = true then none else cur[q.off]?) = some (.int k z) := h
    by_cases hs : q.spot.isSome = true
    · rw [if_pos hs] at h'; cases h'
    · rw [if_neg hs] at h'
      exact hv _ (Array.mem_of_getElem? h') k z rfl
  have hlt : q.block < W.heap.size := by
    rcases Nat.lt_or_ge q.block W.heap.size with hl | hl
    · exact hl
    · unfold World.cell? at h
      rw [Array.getElem?_eq_none (by omega)] at h
      cases h
  unfold World.cell? at h ⊢
  rw [hb.block _ hlt (fun e => hne (by injection e))]
  exact h
/-- A list at work: its terms (the first ones handed in, or a row of its own), and whether there was no room. -/
def CookB (W : World) (g : Nat) (A0 : Option Addr) (s : List S28 × Bool) : Prop := ∃ A c, W.heap[g]? = some (.cells #[.slice A s.1.length c, .bool s.2] 89 (0, 0)) ∧ s.1.length ≤ c ∧ k28.C W A s.1.length s.1 ∧ (A = A0 ∨ Row28 W A)
/-- A term more: the list then, and its place. -/
def cookA (s : List S28 × Bool) (t : S28) : (List S28 × Bool) × Int := if (addR s.1 t).2.2 = 0 then (((addR s.1 t).1, s.2), (addR s.1 t).2.1) else ((s.1, true), -1)
theorem grown_of_box {g : Nat} {w w1 w2 : World} (h1 : Below w.heap.size w w1) (h2 : w1.grownBy w2 (some g)) : w.grownBy w2 (some g) :=
  ⟨h2.os.trans h1.os, h2.tape.trans h1.tape, h2.output.trans h1.output, Nat.le_trans h1.size h2.size, fun k hk hne => (h2.block k (Nat.lt_of_lt_of_le hk h1.size) hne).trans (h1.block k hk)⟩
theorem row28_kept {W W' : World} {A : Option Addr} {g t : Nat} {cur : Array Value} (h : Row28 W A) (hg : W.heap[g]? = some (.cells cur t (0, 0))) (ht : t ≠ 28) (hb : W.grownBy W' (some g)) : Row28 W' A := fun ad e => by
  obtain ⟨cu, hc⟩ := h ad e
  refine ⟨cu, (hb.block _ (blk_lt hc) (fun e2 => ?_)).trans hc⟩
  injection e2 with e2
  rw [e2, hg] at hc
  injection hc with hc
  injection hc with _ hc
  exact ht hc
theorem addR_q (l : List S28) (t : S28) : (addR l t).2.2 = 0 ∨ (addR l t).2.2 = 1 ∨ (addR l t).2.2 = 6 := by
  unfold addR
  split
  · split
    · split
      · exact .inl rfl
      · split
        · exact .inr (.inr rfl)
        · exact .inl rfl
    · exact .inr (.inl rfl)
  · exact .inr (.inl rfl)
theorem part_calls (b : Bool) (i : Int) (w : World) : Calls Try.prog 69 #[.bool b, .int .i64 i] w fun e w' => e = .returned (.int .i64 (if b = true then i else -1)) ∧ w' = w := by
  cases b with
  | true =>
    go_enter Try.func69, Try.ntmps69
    go_wp2
    go_ret
    exact ⟨rfl, rfl⟩
  | false =>
    go_enter Try.func69, Try.ntmps69
    go_wp2
    go_ret
    exact ⟨rfl, rfl⟩
set_option maxHeartbeats 2000000 in
set_option maxRecDepth 100000 in
theorem cook_calls (g : Nat) (A0 : Option Addr) (s : List S28 × Bool) (t : S28) (w : World) (h : CookB w g A0 s) (hlen : s.1.length ≤ 1000) (hwf : ∀ t ∈ s.1, wfT t) :
    Calls Try.prog 68 #[.pointer (some ⟨g, 0, none⟩), tv t] w fun e w' => e = .returned (.int .i64 (cookA s t).2) ∧ CookB w' g A0 (cookA s t).1 ∧ w.grownBy w' (some g) := by
  obtain ⟨A, c, hbox, hc, hC, hrow0⟩ := h
  obtain ⟨w1, hw1⟩ : ∃ w1, w.alloc (.cells #[.int .i64 t.f0, .int .u64 t.f1, .int .i64 t.f2, .int .i64 t.f3] 28 (0, 0)) = w1 := ⟨_, rfl⟩
  have hb1 : Below w.heap.size w w1 := by rw [← hw1]; exact below_alloc (Below.refl _ _) _
  have hK1 : w1.heap[w.heap.size]? = some (.cells #[.int .i64 t.f0, .int .u64 t.f1, .int .i64 t.f2, .int .i64 t.f3] 28 (0, 0)) := by rw [← hw1]; exact heap_alloc_new _ _
  have hbox1 := (hb1.block _ (blk_lt hbox)).trans hbox
  have hcall : Hid (∀ W, Below w1.heap.size w1 W → Calls Try.prog 14 #[.slice A s.1.length c, tv t] W fun e w' => AddE A s.1 t e w' ∧ Below W.heap.size W w') := Lib.hid fun W hW => add_calls A c s.1 t W (Kd.C_below (Kd.C_below hC hb1) hW) hc (by omega) hwf
  have hq : Hid (∀ W, Below w1.heap.size w1 W → W.cell? ⟨g, 0, none⟩ = some (.slice A s.1.length c) ∧ W.cell? ⟨w.heap.size, 0, none⟩ = some (.int .i64 t.f0) ∧ W.cell? ⟨w.heap.size, 1, none⟩ = some (.int .u64 t.f1) ∧ W.cell? ⟨w.heap.size, 2, none⟩ = some (.int .i64 t.f2) ∧ W.cell? ⟨w.heap.size, 3, none⟩ = some (.int .i64 t.f3)) :=
    Lib.hid fun W hW => ⟨(box2 ((hW.block _ (blk_lt hbox1)).trans hbox1)).1, box4 ((hW.block _ (blk_lt hK1)).trans hK1)⟩
  have hkeep : Hid (∀ W, Below w1.heap.size w1 W → k28.C W A s.1.length s.1 ∧ (A = A0 ∨ Row28 W A) ∧ W.heap[g]? = some (.cells #[.slice A s.1.length c, .bool s.2] 89 (0, 0)) ∧ Below w.heap.size w W) := Lib.hid fun W hW =>
    ⟨Kd.C_below (Kd.C_below hC hb1) hW, hrow0.imp id (fun h ad e => by obtain ⟨cu, hcu⟩ := h ad e; exact ⟨cu, (hW.block _ (Nat.lt_of_lt_of_le (blk_lt hcu) hb1.size)).trans ((hb1.block _ (blk_lt hcu)).trans hcu)⟩), (hW.block _ (blk_lt hbox1)).trans hbox1, below_step hb1 hW⟩
  clear hK1 hbox hbox1 hC hrow0
  go_enter Try.func68, Try.ntmps68
  go_wp2_with fail
  refine start_ (n := 13) (S := fun w' => w'.cell? ⟨g, 0, none⟩ = some (.slice A s.1.length c) ∧ w'.cell? ⟨w.heap.size, 0, none⟩ = some (.int .i64 t.f0) ∧ w'.cell? ⟨w.heap.size, 1, none⟩ = some (.int .u64 t.f1) ∧ w'.cell? ⟨w.heap.size, 2, none⟩ = some (.int .i64 t.f2) ∧ w'.cell? ⟨w.heap.size, 3, none⟩ = some (.int .i64 t.f3)) (ds := []) bHCook0 (by kernel_rfl) rfl rfl ⟨(hq.out _ (Below.refl w1.heap.size w1).drew).1, (hq.out _ (Below.refl w1.heap.size w1).drew).2.1, (hq.out _ (Below.refl w1.heap.size w1).drew).2.2.1, (hq.out _ (Below.refl w1.heap.size w1).drew).2.2.2.1, (hq.out _ (Below.refl w1.heap.size w1).drew).2.2.2.2⟩ (fun hHeld => ?_)
  refine p_ 0 (some 9) bHCook1 ?_
  refine p_ 1 (some 10) bHCook2 ?_
  refine p_ 2 (some 11) bHCook3 ?_
  refine t_ 3 (some 12) bHCook4 hHeld (hv := by rintro w' ⟨s0, s1, s2, s3, s4⟩; go_simp; with_reducible rfl) (h := ?_)
  refine t_ 4 (some 13) bHCook5 hHeld (hv := by rintro w' ⟨s0, s1, s2, s3, s4⟩; go_simp; with_reducible rfl) (h := ?_)
  refine one_ (i := 5) (N := some 14) bHCook6 rfl rfl (by kernel_rfl) (by decide) (fun K hK => ?_)
  refine goes_ Try.func14 (by kernel_rfl) rfl #[.slice A s.1.length c, tv t] (by rfl) rfl rfl (by simp only [List.map_toArray, List.map_cons, List.map_nil]; rfl) ?_
  with_reducible refine (hcall.out _ (Below.refl w1.heap.size w1).drew).mono ?_
  rintro e_ w3 ⟨⟨B, d, m, i, q, hadd, rfl, hd, hCB, hrow⟩, hb3⟩
  refine ⟨_, rfl, ?_⟩
  have hb3 := below_step (Below.refl w1.heap.size w1).drew hb3
  refine hK.out _ _ ⟨(hq.out _ hb3).1, (hq.out _ hb3).2.1, (hq.out _ hb3).2.2.1, (hq.out _ hb3).2.2.2.1, (hq.out _ hb3).2.2.2.2⟩ (fun hHeld => ?_)
  clear hK K
  refine norm_ (a' := ?_) ?_ ?_
  rotate_left
  · show Act.put _ (some 14) _ = _
    simp only [Act.put, List.setIfInBounds_toArray, List.set_cons_zero, List.set_cons_succ, i64_w, i32_w]
    rfl
  refine p_ 6 (some 8) bHCook7 ?_
  refine p_ 7 (some 15) bHCook8 ?_
  refine p_ 8 (some 16) bHCook9 ?_
  refine p_ 9 (some 17) bHCook10 ?_
  refine p_ 10 (some 5) bHCook11 ?_
  refine p_ 11 (some 6) bHCook12 ?_
  refine p_ 12 (some 7) bHCook13 ?_
  refine done_ (by kernel_rfl) ?_
  obtain ⟨hCA, hrA, hbox3, hB3⟩ := hkeep.out w3 hb3
  have hvals : ∀ v ∈ (#[.slice A s.1.length c, .bool s.2] : Array Value), ∀ k i, v ≠ .int k i := by intro v hv k i e; subst e; simp at hv
  have hq3 := addR_q s.1 t
  rw [hadd] at hq3
  have hz := (box2 hbox3).1
  clear hcall hq hkeep hb3
  by_cases h0 : q = 0
  · subst h0
    have hans : cookA s t = ((m, s.2), i) := by unfold cookA; rw [hadd]; rfl
    clear hq3
    go_wp2_with ((with_reducible refine gate_store (t := 23) (p := 26) rfl ?_); go_loud (refine wpList_storeField rfl rfl 23 (.tmp 26) (.tmp 24) rfl 0 (.slice B m.length d) #[.slice B m.length d, .bool s.2] rfl rfl rfl (by kernel_rfl) rfl hbox3 (Nat.le_of_ble_eq_true rfl) rfl ?_); intro w4 hK4 hg4 hs4)
    have hCC := C28_box hCB hbox3 hvals hg4
    have hrr : B = A0 ∨ Row28 w4 B := by
      rcases hrow with rfl | h
      · exact hrA.imp id fun h => row28_kept h hbox3 (by decide) hg4
      · exact .inr (row28_kept h hbox3 (by decide) hg4)
    have hgr := grown_of_box hB3 hg4
    go_ret
    rw [hans]
    exact ⟨rfl, ⟨B, d, hK4, hd, hCC, hrr⟩, hgr⟩
  · have hans : cookA s t = ((s.1, true), -1) := by unfold cookA; rw [hadd]; exact if_neg h0
    have hq1 : q = 1 ∨ q = 6 := hq3.resolve_left h0
    have hfin : ∀ w4, w4.heap[g]? = some (.cells #[.slice A s.1.length c, .bool true] 89 (0, 0)) → w3.grownBy w4 (some g) → CookB w4 g A0 (s.1, true) ∧ w.grownBy w4 (some g) := fun w4 hK4 hg4 =>
      ⟨⟨A, c, hK4, hc, C28_box hCA hbox3 hvals hg4, hrA.imp id fun h => row28_kept h hbox3 (by decide) hg4⟩, grown_of_box hB3 hg4⟩
    replace hfin := Lib.hid hfin
    rcases hq1 with rfl | rfl
    · go_wp2_with ((with_reducible refine gate_store (t := 4) (p := 22) rfl ?_); go_loud (refine wpList_storeField rfl rfl 4 (.tmp 22) (.const (.bool true)) rfl 1 (.bool true) #[.slice A s.1.length c, .bool true] rfl rfl rfl (by kernel_rfl) rfl hbox3 (Nat.le_of_ble_eq_true rfl) rfl ?_); intro w4 hK4 hg4 hs4)
      go_ret
      exact ⟨rfl, hfin.out w4 hK4 hg4⟩
    · go_wp2_with ((with_reducible refine gate_store (t := 4) (p := 22) rfl ?_); go_loud (refine wpList_storeField rfl rfl 4 (.tmp 22) (.const (.bool true)) rfl 1 (.bool true) #[.slice A s.1.length c, .bool true] rfl rfl rfl (by kernel_rfl) rfl hbox3 (Nat.le_of_ble_eq_true rfl) rfl ?_); intro w4 hK4 hg4 hs4)
      go_ret
      exact ⟨rfl, hfin.out w4 hK4 hg4⟩
end Go.Proofs.Ytenmmeehgnkcpaa.Q
namespace Go.Proofs.Ytenmmeehgnkcpaa.Q
open Go.RowKit Go.Proofs.YtenmmeehgnkcpaaW.PrintWords Go.Proofs.YtenmmeehgnkcpaaW.PrintLast Go.Proofs.YtenmmeehgnkcpaaW.PrintMore
attribute [local go_sem] Oper.semAt_some
set_option linter.unusedVariables false
set_option linter.unusedSimpArgs false

section
variable {F : Fence} {n : Nat} {P : Program} {ops : Array Oper} {rest : List Oper} {o : Oper} {a : Act} {Q : Exit → Act → World → Prop} {W : World}
theorem gateIn_store {t : TypeId} {p : Tmp} {v : Operand} (_ho : o.op = .store t (.tmp p) v) (h : wpListIn F n P ops Q (o :: rest) a W) : wpListIn F n P ops Q (o :: rest) a W := h
theorem wpListIn_storeBox (hN : o.dst = none) (hgd : o.guard = none) (t : TypeId) (p x : Operand) (ho : o.op = .store t p x) {g : Nat} {e : TypeId} {cur : Array Value} (u : Value) (seg : List Value)
    (haddr : a.eval p = .pointer (some ⟨g, 0, none⟩)) (hx : a.eval x = u) (hu : u.cells.toList = seg) (ht : (P.info? t).map (·.size) = some seg.length) (h1 : ∀ q ∈ seg, q.oneCell' = true)
    (hh : W.heap[g]? = some (.cells cur e (0, 0))) (hl : cur.size = seg.length)
    (h : ∀ W', W'.heap[g]? = some (.cells seg.toArray e (0, 0)) → W.grownBy W' (some g) → W'.heap.size = W.heap.size → wpListIn F n P ops Q rest a W') : wpListIn F n P ops Q (o :: rest) a W := by
  obtain ⟨b1, b2, b3⟩ := setCells_box W cur seg hh hl
  refine wpListIn_plain hgd fun K hK => ?_
  have hrun := run_store_run (P := P) (w := W) (g := g) (o := 0) t u seg hh hu ht (by omega) h1
  unfold Oper.wpIn
  refine ⟨?_, ?_⟩
  · simp [Oper.about, ho]
  · rw [Oper.semAt_plain F _ _ (by rw [ho]; intro c hc'; cases hc')]
    unfold execOp
    simp only [ho, haddr, hx, Sem.run_bind, Sem.run_pure, Result.andThen_ok, hrun]
    show K (a.put o.dst undef) _
    rw [hN]
    exact hK _ _ (h _ b1 b2 b3)
end
/-- What comes: a place, or a term that is added. -/
inductive It where
  | put (i : Int)
  | add (t : S28)
abbrev StC := List S28 × Bool
def stepI (s : StC) : It → StC × Int
  | .put i => (s, i)
  | .add t => cookA s t
def stL (s : StC) (D : List It) : StC := D.foldl (fun s x => (stepI s x).1) s
def valsL (s : StC) : List It → List Int
  | [] => []
  | x :: r => (stepI s x).2 :: valsL (stepI s x).1 r
theorem stL_snoc (s : StC) (D : List It) (x : It) : stL s (D ++ [x]) = (stepI (stL s D) x).1 := by simp [stL]
theorem stL_put (s : StC) (D : List It) (i : Int) : stL s (D ++ [.put i]) = stL s D := by rw [stL_snoc]; rfl
theorem valsL_snoc (x : It) : ∀ (D : List It) (s : StC), valsL s (D ++ [x]) = valsL s D ++ [(stepI (stL s D) x).2]
  | [], s => rfl
  | y :: D, s => by
    have := valsL_snoc x D (stepI s y).1
    show (stepI s y).2 :: valsL (stepI s y).1 (D ++ [x]) = _
    rw [this]
    rfl
theorem valsL_len : ∀ (D : List It) (s : StC), (valsL s D).length = D.length
  | [], s => rfl
  | y :: D, s => by
    show (_ :: valsL _ D).length = _
    rw [List.length_cons, List.length_cons, valsL_len D]
def okIt : It → Prop
  | .put _ => True
  | .add t => wfT t
def okS (s : StC) : Prop := s.1.length ≤ 400 ∧ ∀ t ∈ s.1, wfT t
theorem wf_turn {t : S28} (h : wfT t) : wfT (turnT t) := by
  unfold turnT
  split
  · exact ⟨h.1, h.2.1, h.2.2.2, h.2.2.1⟩
  · exact h
theorem addR_cases (l : List S28) (t : S28) : (addR l t).2.2 ≠ 0 ∨ (addR l t).1 = l ∨ ((addR l t).1 = l ++ [turnT t] ∧ l.length < 400) := by
  unfold addR
  split
  · rename_i hr
    have hl : l.length ≤ 400 := of_decide_eq_true (Bool.and_eq_true_iff.1 hr).2
    split
    · split
      · exact .inr (.inl rfl)
      · split
        · exact .inl (by decide)
        · exact .inr (.inr ⟨rfl, by omega⟩)
    · exact .inl (by decide)
  · exact .inl (by decide)
theorem step_ok {s : StC} (h : okS s) {x : It} (hx : okIt x) : okS (stepI s x).1 ∧ s.1 <+: (stepI s x).1.1 := by
  cases x with
  | put i => exact ⟨h, List.prefix_refl _⟩
  | add t =>
    show okS (cookA s t).1 ∧ s.1 <+: (cookA s t).1.1
    unfold cookA
    split
    · rename_i h0
      rcases addR_cases s.1 t with h1 | h1 | ⟨h1, h2⟩
      · exact absurd h0 h1
      · rw [h1]; exact ⟨h, List.prefix_refl _⟩
      · rw [h1]
        refine ⟨⟨by rw [List.length_append, List.length_singleton]; omega, fun u hu => ?_⟩, List.prefix_append _ _⟩
        rcases List.mem_append.1 hu with hu | hu
        · exact h.2 u hu
        · rw [List.mem_singleton.1 hu]; exact wf_turn hx
    · exact ⟨h, List.prefix_refl _⟩
theorem stL_ok : ∀ (D : List It) {s : StC}, okS s → (∀ x ∈ D, okIt x) → okS (stL s D) ∧ s.1 <+: (stL s D).1
  | [], s, h, _ => ⟨h, List.prefix_refl _⟩
  | x :: D, s, h, hD => by
    obtain ⟨h1, h2⟩ := step_ok h (hD x (List.mem_cons_self ..))
    obtain ⟨h3, h4⟩ := stL_ok D h1 fun y hy => hD y (List.mem_cons_of_mem _ hy)
    exact ⟨h3, h2.trans h4⟩
/-- What comes of a place; of two. -/
def it2 (l : List S28) (x : Int) : List It := [.add ⟨1, 0, x, 0⟩, .add ⟨3, 0, x, 0⟩, .put (if (rd_T28 l x).f0 = 4 then (rd_T28 l x).f2 else -1), .put (if (rd_T28 l x).f0 = 4 then (rd_T28 l x).f3 else -1)]
def it3 (l : List S28) (x y : Int) : List It := [if (rd_T28 l y).f0 = 1 then .add ⟨2, 0, x, (rd_T28 l y).f2⟩ else .put (-1), .add ⟨4, 0, x, y⟩, .put (if (rd_T28 l y).f0 = 5 ∧ (rd_T28 l y).f2 = x then (rd_T28 l y).f3 else -1), .add ⟨6, 0, x, y⟩]
def items (l : List S28) (fr : List Int) : List It := fr.map .put ++ (fr.flatMap (it2 l) ++ fr.flatMap fun x => fr.flatMap (it3 l x))
/-- Rows of terms stay. -/
def Keep28 (W W' : World) : Prop := ∀ (k : Nat) (cur : Array Value), W.heap[k]? = some (Obj.cells cur 28 (0, 0)) → W'.heap[k]? = some (Obj.cells cur 28 (0, 0))
/-- Where the iterator stands: the list at work, its boxes, the frame. -/
def ItS (g gc gf : Nat) (A0 Af : Option Addr) (cf : Nat) (fr : List Int) (s : StC) (W : World) : Prop :=
  CookB W g A0 s ∧ W.heap[gc]? = some (.cells #[.pointer (some ⟨g, 0, none⟩)] 87 (0, 0)) ∧ W.heap[gf]? = some (.cells #[.slice Af fr.length cf] 33 (0, 0)) ∧ (Kd.int .i64).C W Af fr.length fr
theorem CI_box {W W' : World} {A : Option Addr} {n : Nat} {l : List Int} {g t : Nat} {cur : Array Value} (hC : (Kd.int .i64).C W A n l) (hg : W.heap[g]? = some (.cells cur t (0, 0))) (hv : ∀ v ∈ cur, ∀ k i, v ≠ .int k i) (hb : W.grownBy W' (some g)) : (Kd.int .i64).C W' A n l := by
  refine ⟨hC.1, hC.2.1, fun hn => ?_⟩
  obtain ⟨ad, e, hc⟩ := hC.2.2 hn
  refine ⟨ad, e, fun j p hj => ?_⟩
  obtain ⟨c, hs, hr, hcell⟩ := hc j p hj
  refine ⟨c, hs, hr, fun i u hu => ?_⟩
  have h := hcell i u hu
  have hint : ∃ k z, u = .int k z := by
    have hr' : c = [.int .i64 p] := hr
    subst hr'
    match i, hu with
    | 0, hu => exact ⟨_, _, (Option.some.inj hu).symm⟩
  obtain ⟨k, z, rfl⟩ := hint
  generalize ad.add (j * _ + i) = q at h ⊢
  have hne : q.block ≠ g := fun e => by
    unfold World.cell? at h
    rw [e, hg] at h
    have h' : (if q.spot.isSome = true then none else cur[q.off]?) = some (.int k z) := h
    by_cases hs : q.spot.isSome = true
    · rw [if_pos hs] at h'; cases h'
    · rw [if_neg hs] at h'
      exact hv _ (Array.mem_of_getElem? h') k z rfl
  have hlt : q.block < W.heap.size := by
    rcases Nat.lt_or_ge q.block W.heap.size with hl | hl
    · exact hl
    · unfold World.cell? at h
      rw [Array.getElem?_eq_none (by omega)] at h
      cases h
  unfold World.cell? at h ⊢
  rw [hb.block _ hlt (fun e => hne (by injection e))]
  exact h
theorem cook_vals {W : World} {g : Nat} {A0 : Option Addr} {s : StC} (h : CookB W g A0 s) : ∃ cur, W.heap[g]? = some (.cells cur 89 (0, 0)) ∧ ∀ v ∈ cur, ∀ k i, v ≠ .int k i := by
  obtain ⟨A, c, hb, _⟩ := h
  refine ⟨_, hb, fun v hv k i e => ?_⟩
  subst e
  simp at hv
theorem blk_ne {W : World} {g k t u : Nat} {cur cur' : Array Value} (h1 : W.heap[g]? = some (.cells cur t (0, 0))) (h2 : W.heap[k]? = some (.cells cur' u (0, 0))) (hne : t ≠ u) : some k ≠ some g := by
  intro e
  injection e with e
  subst e
  rw [h1] at h2
  injection h2 with h2
  injection h2 with _ h2
  exact hne h2
/-- Nothing that was there turns. -/
theorem itS_below {g gc gf : Nat} {A0 Af : Option Addr} {cf : Nat} {fr : List Int} {s : StC} {W W' : World} (h : ItS g gc gf A0 Af cf fr s W) (hb : Below W.heap.size W W') : ItS g gc gf A0 Af cf fr s W' := by
  obtain ⟨⟨A, c, h1, h2, h3, h4⟩, h5, h6, h7⟩ := h
  exact ⟨⟨A, c, (hb.block _ (blk_lt h1)).trans h1, h2, Kd.C_below h3 hb, h4.imp id fun h ad e => by obtain ⟨cu, hc⟩ := h ad e; exact ⟨cu, (hb.block _ (blk_lt hc)).trans hc⟩⟩, (hb.block _ (blk_lt h5)).trans h5, (hb.block _ (blk_lt h6)).trans h6, Kd.C_below h7 hb⟩
/-- The list at work takes a term. -/
theorem itS_cook {g gc gf : Nat} {A0 Af : Option Addr} {cf : Nat} {fr : List Int} {s s' : StC} {W W' : World} (h : ItS g gc gf A0 Af cf fr s W) (hc : CookB W' g A0 s') (hb : W.grownBy W' (some g)) : ItS g gc gf A0 Af cf fr s' W' ∧ Keep28 W W' := by
  obtain ⟨h1, h5, h6, h7⟩ := h
  obtain ⟨cur, hg, hv⟩ := cook_vals h1
  exact ⟨⟨hc, (hb.block _ (blk_lt h5) (blk_ne hg h5 (by decide))).trans h5, (hb.block _ (blk_lt h6) (blk_ne hg h6 (by decide))).trans h6, CI_box h7 hg hv hb⟩, fun k cu hk => (hb.block _ (blk_lt hk) (blk_ne hg hk (by decide))).trans hk⟩
theorem drop_int (l : List Int) (i : Nat) (h : i < l.length) : l.drop i = rd l (i : Int) :: l.drop (i + 1) := by
  rw [List.drop_eq_getElem_cons h]
  simp [rd, rdOf, h]
theorem rdI_nat (ks : List Int) (i : Nat) (h : i < ks.length) : rd ks (i : Int) = ks[i] := by simp [rd, rdOf, h]
theorem keep28_below {W W' : World} (hb : Below W.heap.size W W') : Keep28 W W' := fun k cu hk => (hb.block _ (blk_lt hk)).trans hk
theorem grown_any {W W' : World} (hb : Below W.heap.size W W') (g : Nat) : W.grownBy W' (some g) := ⟨hb.os, hb.tape, hb.output, hb.size, fun k hk _ => hb.block k hk⟩
theorem cook_at {g gc gf : Nat} {A0 Af : Option Addr} {cf : Nat} {fr : List Int} {s0 : StC} {D : List It} {W : World} (t : S28) (hS : ItS g gc gf A0 Af cf fr (stL s0 D) W) (hok : okS (stL s0 D)) :
    Calls Try.prog 68 #[.pointer (some ⟨g, 0, none⟩), tv t] W fun e W' => e = .returned (.int .i64 (stepI (stL s0 D) (.add t)).2) ∧ ItS g gc gf A0 Af cf fr (stL s0 (D ++ [.add t])) W' ∧ Keep28 W W' ∧ W.grownBy W' (some g) := by
  refine (cook_calls g A0 (stL s0 D) t W hS.1 (Nat.le_trans hok.1 (by decide)) hok.2).mono ?_
  rintro e W' ⟨rfl, hc, hg⟩
  rw [stL_snoc]
  obtain ⟨h1, h2⟩ := itS_cook (s' := (cookA (stL s0 D) t).1) hS hc hg
  exact ⟨rfl, h1, h2, hg⟩
theorem items_ok {l : List S28} {fr : List Int} (hl : l.length ≤ 400) (hwf : ∀ t ∈ l, wfT t) (hfr : ∀ x ∈ fr, 0 ≤ x ∧ x < l.length) : ∀ x ∈ items l fr, okIt x := by
  have w0 : ∀ x : Int, 0 ≤ x → x < l.length → (Lit.int .i64 x).wf = true := fun x h0 h1 => by
    have e1 : IntKind.i64.min = -9223372036854775808 := rfl
    have e2 : IntKind.i64.max = 9223372036854775807 := rfl
    simp [Lit.wf]
    omega
  have hrd : ∀ x ∈ fr, wfT (rd_T28 l x) := fun x hx => by
    obtain ⟨h0, h1⟩ := hfr x hx
    obtain ⟨j, rfl⟩ : ∃ j : Nat, x = (j : Int) := ⟨x.toNat, by omega⟩
    exact hwf _ (rd28_mem l j (by omega))
  intro x hx
  unfold items at hx
  rcases List.mem_append.1 hx with hx | hx
  · obtain ⟨i, _, rfl⟩ := List.mem_map.1 hx
    trivial
  · rcases List.mem_append.1 hx with hx | hx
    · obtain ⟨i, hi, hx⟩ := List.mem_flatMap.1 hx
      obtain ⟨h0, h1⟩ := hfr i hi
      simp only [it2, List.mem_cons, List.not_mem_nil, or_false] at hx
      rcases hx with rfl | rfl | rfl | rfl
      · exact ⟨rfl, rfl, w0 i h0 h1, rfl⟩
      · exact ⟨rfl, rfl, w0 i h0 h1, rfl⟩
      · trivial
      · trivial
    · obtain ⟨i, hi, hx⟩ := List.mem_flatMap.1 hx
      obtain ⟨j, hj, hx⟩ := List.mem_flatMap.1 hx
      obtain ⟨h0, h1⟩ := hfr i hi
      obtain ⟨k0, k1⟩ := hfr j hj
      simp only [it3, List.mem_cons, List.not_mem_nil, or_false] at hx
      rcases hx with rfl | rfl | rfl | rfl
      · split
        · exact ⟨rfl, rfl, w0 i h0 h1, (hrd j hj).2.2.1⟩
        · trivial
      · exact ⟨rfl, rfl, w0 i h0 h1, w0 j k0 k1⟩
      · trivial
      · exact ⟨rfl, rfl, w0 i h0 h1, w0 j k0 k1⟩
theorem four_of {it D R : List It} {a b c d : It} (h : it = D ++ ([a, b, c, d] ++ R)) : (D ++ [a]) <+: it ∧ (D ++ [a] ++ [b]) <+: it ∧ (D ++ [a] ++ [b] ++ [c]) <+: it ∧ (D ++ [a] ++ [b] ++ [c] ++ [d]) <+: it ∧ it = (D ++ [a] ++ [b] ++ [c] ++ [d]) ++ R := by
  subst h
  exact ⟨⟨[b, c, d] ++ R, by simp⟩, ⟨[c, d] ++ R, by simp⟩, ⟨[d] ++ R, by simp⟩, ⟨R, by simp⟩, by simp⟩
theorem rd_prefix {l m : List S28} (h : l <+: m) (j : Nat) (hj : j < l.length) : rd_T28 m (j : Int) = rd_T28 l (j : Int) ∧ j < m.length := by
  obtain ⟨r, rfl⟩ := h
  have h2 : j < (l ++ r).length := by rw [List.length_append]; omega
  rw [rd28_nat _ j h2, rd28_nat l j hj]
  exact ⟨List.getElem_append_left hj, h2⟩
end Go.Proofs.Ytenmmeehgnkcpaa.Q
