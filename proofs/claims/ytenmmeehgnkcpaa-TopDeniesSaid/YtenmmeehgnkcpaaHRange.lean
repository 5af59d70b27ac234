/- A loop over a function, its iterator's call left open: what a round of it is, and what is asked where the iterator has returned.
   Conditions: an outermost loop. -/
import Derived.RangeFuncNested
namespace Go.RangeOpen
open Go Go.RowKit

/-- Where a round's body may be left: on with the loop, or out of it by a jump. -/
def RoundEnd (l : Nat) (rdy busy : Obj) (fin : Code → Obj) (R : Ending → World → Prop) : Exit → Act → World → Prop
  | .normal, _, W => W.heap[l]? = some busy ∧ R (.returned (.bool true)) (W.putObj l rdy)
  | .ret, _, W => W.heap[l]? = some busy ∧ R (.returned (.bool false)) (W.putObj l (fin .ret))
  | .exit id, _, W => W.heap[l]? = some busy ∧ R (.returned (.bool false)) (W.putObj l (fin (.exit id)))
  | .goto t, _, W => W.heap[l]? = some busy ∧ R (.returned (.bool false)) (W.putObj l (fin (.goto t)))
  | .panic _, _, _ => False
  | .outgrown, _, _ => False

variable {F : Fence} {n : Nat} {P : Program}

theorem rangeFunc_open {g : Operand} {ps : Array Tmp} {assign body : Code} {Q : Exit → Act → World → Prop} {a : Act} {w : World}
    (hro : F.round = none) (h1 : 1 ≤ n) {gf : Nat} {lb : Array Value} (hg : a.eval g = .func (.func gf) #[] lb) (hFg : F.fn gf) (eg : ∀ args w, (callFunc gf args).run P w = .ok (.enter gf args) w)
    (h : ∀ (rdy busy : Obj) (fin : Code → Obj), (rdy.isCells = false ∧ rdy.isWalk = false) → (busy.isCells = false ∧ busy.isWalk = false) → (∀ c, (fin c).isCells = false ∧ (fin c).isWalk = false) →
      (∀ (args : Array Value) (W : World) (R : Ending → World → Prop), args.size = ps.size → W.heap[w.heap.size + 1]? = some rdy →
        assign.wpIn (F.inRound (w.heap.size + 1)) (n - 1 - 1) P (Exit.then (fun a' W' => W'.heap[w.heap.size + 1]? = some rdy ∧ body.wpIn (F.inRound (w.heap.size + 1)) (n - 1 - 1) P (RoundEnd (w.heap.size + 1) rdy busy fin R) a' (W'.putObj (w.heap.size + 1) busy)) (fun _ _ _ => False))
          { tmps := (ps.zip args).foldl (fun t (p, v) => t.setIfInBounds p v) a.tmps, defers := [] } W →
        YieldAt F (n - 1 - 1) P (w.heap.size + 1) args W R) →
      CallsIn F (n - 1) P gf (#[.func (.yield (w.heap.size + 1)) #[] #[]] ++ lb) ((w.alloc (.deferred (some []))).alloc rdy) fun e W2 => (∃ v, e = .returned v) ∧
        ((W2.heap[w.heap.size + 1]? = some rdy ∧ ∀ o : Obj, o.isCells = false → o.isWalk = false → Q .normal { a with defers := { target := .collected w.heap.size, args := #[] } :: a.defers } (W2.putObj (w.heap.size + 1) o)) ∨
         (∃ c : Code, W2.heap[w.heap.size + 1]? = some (fin c) ∧ ∀ o : Obj, o.isCells = false → o.isWalk = false → c.wpIn F n P Q { a with defers := { target := .collected w.heap.size, args := #[] } :: a.defers } (W2.putObj (w.heap.size + 1) o)))) :
    (Code.rangeFunc g ps assign body).wpIn F n P Q a w := by
  refine wpIn_rangeFunc fun fn hfn => ?_
  obtain ⟨rec, hrec⟩ : ∃ rec : LoopState → Option Code → Loop, rec = fun st pe => { state := st, pending := pe, fn, tmps := a.tmps, params := ps, assign, body, defers := w.heap.size } := ⟨_, rfl⟩
  refine ⟨w.heap.size + 1, [{ target := .collected w.heap.size, args := #[] }], (w.alloc (.deferred (some []))).alloc (.loop (rec .ready none)), { target := .fn (.func gf) lb, args := #[.func (.yield (w.heap.size + 1)) #[] #[]] },
    (w.alloc (.deferred (some []))).alloc (.loop (rec .ready none)), gf, #[.func (.yield (w.heap.size + 1)) #[] #[]] ++ lb, (w.alloc (.deferred (some []))).alloc (.loop (rec .ready none)), by rw [hro, hrec]; exact run_enterLoop_outer _ _ _ _ _, ?_, ?_, ?_, fun _ => h1, ?_⟩
  · simp only [resolve, hg]
    simp [go_sem]
  · intro f' hf'
    simp [Target.leads] at hf'
    exact hf' ▸ hFg
  · simp [invoke, go_sem, eg]
  · refine (h (.loop (rec .ready none)) (.loop (rec .busy none)) (fun c => .loop (rec .done (some c))) ⟨rfl, rfl⟩ ⟨rfl, rfl⟩ (fun _ => ⟨rfl, rfl⟩) ?_).mono ?_
    · intro args W R hs hl hx
      have hy := run_yield (P := P) (args := args) hl (by rw [hrec]; exact hs)
      rw [hrec] at hy
      refine ⟨fn, _, assign, body, hy, roundIn_of_wpIn hfn (wpIn_mono hx ?_)⟩
      intro e a' W' hp
      cases e with
      | normal =>
        obtain ⟨hl', hb⟩ := hp
        have hbr := run_beginRound (P := P) hl' (by rw [hrec])
        refine ⟨_, hbr, ?_⟩
        have hb' : body.wpIn (F.inRound (w.heap.size + 1)) (n - 1 - 1) P (RoundEnd (w.heap.size + 1) (.loop (rec .ready none)) (.loop (rec .busy none)) (fun c => .loop (rec .done (some c))) R) a' (W'.putObj (w.heap.size + 1) (.loop { rec .ready none with state := .busy })) := by
          rw [hrec] at hb ⊢
          exact hb
        refine wpIn_mono hb' ?_
        have hend : ∀ (j : Option Code) (W3 : World), W3.heap[w.heap.size + 1]? = some (.loop (rec .busy none)) → (Instr.endRound (w.heap.size + 1) j).run P W3 = .ok (.bool j.isNone) (W3.putObj (w.heap.size + 1) (.loop (rec (if j.isNone then .ready else .done) j))) := fun j W3 h3 => by
          have := run_endRound (P := P) j h3
          rw [hrec] at this ⊢
          exact this
        intro e3 a3 W3 h3
        cases e3 with
        | normal => exact ⟨_, _, hend none W3 h3.1, h3.2⟩
        | ret => exact ⟨_, _, hend (some .ret) W3 h3.1, h3.2⟩
        | exit id => exact ⟨_, _, hend (some (.exit id)) W3 h3.1, h3.2⟩
        | goto t => exact ⟨_, _, hend (some (.goto t)) W3 h3.1, h3.2⟩
        | panic c => exact h3
        | outgrown => exact h3
      | ret => exact hp
      | exit id => exact hp
      | goto t => exact hp
      | panic c => exact hp
      | outgrown => exact hp
    · rintro e W2 ⟨⟨v, rfl⟩, ⟨hl, hq⟩ | ⟨c, hl, hq⟩⟩
      · exact ⟨none, _, by have := run_endLoop (P := P) hl (by rw [hrec]; simp); rw [hrec] at this; exact this, hq _ rfl rfl⟩
      · exact ⟨some c, _, by have := run_endLoop (P := P) hl (by rw [hrec]; simp); rw [hrec] at this; exact this, hq _ rfl rfl⟩
end Go.RangeOpen
