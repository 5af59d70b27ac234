/- What the iterator of a frame's recipes puts and adds, in order; what its steps keep.
   Conditions: the list may be, the frame's places lie in it. -/
import Derived.RangeFuncNested
import Derived.RangeFuncBound
import Derived.RangeFuncCalls
import Derived.RangeFuncLeaves
import Derived.RangeFuncBox
import Derived.WalkKit
import Derived.OwnWalkIn
import Derived.TacticsInMore
import Derived.LoopNIn
import Derived.LoopIn
import Derived.Test.YtenmmeehgnkcpaaHCook
namespace Go.Proofs.Ytenmmeehgnkcpaa.Q
open Go.RowKit Go.Proofs.YtenmmeehgnkcpaaW.PrintWords Go.Proofs.YtenmmeehgnkcpaaW.PrintLast Go.Proofs.YtenmmeehgnkcpaaW.PrintMore
attribute [local go_sem] Oper.semAt_some
set_option linter.unusedVariables false
set_option linter.unusedSimpArgs false

section
variable {F : Fence} {n : Nat} {P : Program} {ops : Array Oper} {rest : List Oper} {o : Oper} {a : Act} {Q : Exit → Act → World → Prop} {W : World}
theorem gateIn_store {t : TypeId} {p : Tmp} {v : Operand} (_ho : o.op = .store t (.tmp p) v) (h : wpListIn F n P ops Q (o :: rest) a W) : wpListIn F n P ops Q (o :: rest) a W := h
theorem wpListIn_storeBox (hN : o.dst = none) (hgd : o.guard = none) (t : TypeId) (p x : Operand) (ho : o.op = .store t p x) {g : Nat} {e : TypeId} {cur : Array Value} (u : Value) (seg : List Value)
    (haddr : a.eval p = .pointer (some ⟨g, 0, none⟩)) (hx : a.eval x = u) (hu : u.cells.toList = seg) (ht : (P.info? t).map (·.size) = some seg.length) (h1 : ∀ q ∈ seg, q.oneCell' = true)
    (hh : W.heap[g]? = some (.cells cur e (0, 0))) (hl : cur.size = seg.length)
    (h : ∀ W', W'.heap[g]? = some (.cells seg.toArray e (0, 0)) → W.grownBy W' (some g) → W'.heap.size = W.heap.size → wpListIn F n P ops Q rest a W') : wpListIn F n P ops Q (o :: rest) a W := by
  obtain ⟨b1, b2, b3⟩ := setCells_box W cur seg hh hl
  refine wpListIn_plain hgd fun K hK => ?_
  have hrun := run_store_run (P := P) (w := W) (g := g) (o := 0) t u seg hh hu ht (by omega) h1
  unfold Oper.wpIn
  refine ⟨?_, ?_⟩
  · simp [Oper.about, ho]
  · rw [Oper.semAt_plain F _ _ (by rw [ho]; intro c hc'; cases hc')]
    unfold execOp
    simp only [ho, haddr, hx, Sem.run_bind, Sem.run_pure, Result.andThen_ok, hrun]
    show K (a.put o.dst undef) _
    rw [hN]
    exact hK _ _ (h _ b1 b2 b3)
end
/-- What comes: a place, or a term that is added. -/
inductive It where
  | put (i : Int)
  | add (t : S28)
abbrev StC := List S28 × Bool
def stepI (s : StC) : It → StC × Int
  | .put i => (s, i)
  | .add t => cookA s t
def stL (s : StC) (D : List It) : StC := D.foldl (fun s x => (stepI s x).1) s
def valsL (s : StC) : List It → List Int
  | [] => []
  | x :: r => (stepI s x).2 :: valsL (stepI s x).1 r
theorem stL_snoc (s : StC) (D : List It) (x : It) : stL s (D ++ [x]) = (stepI (stL s D) x).1 := by simp [stL]
theorem stL_put (s : StC) (D : List It) (i : Int) : stL s (D ++ [.put i]) = stL s D := by rw [stL_snoc]; rfl
theorem valsL_snoc (x : It) : ∀ (D : List It) (s : StC), valsL s (D ++ [x]) = valsL s D ++ [(stepI (stL s D) x).2]
  | [], s => rfl
  | y :: D, s => by
    have := valsL_snoc x D (stepI s y).1
    show (stepI s y).2 :: valsL (stepI s y).1 (D ++ [x]) = _
    rw [this]
    rfl
theorem valsL_len : ∀ (D : List It) (s : StC), (valsL s D).length = D.length
  | [], s => rfl
  | y :: D, s => by
    show (_ :: valsL _ D).length = _
    rw [List.length_cons, List.length_cons, valsL_len D]
def okIt : It → Prop
  | .put _ => True
  | .add t => wfT t
def okS (s : StC) : Prop := s.1.length ≤ 400 ∧ ∀ t ∈ s.1, wfT t
theorem wf_turn {t : S28} (h : wfT t) : wfT (turnT t) := by
  unfold turnT
  split
  · exact ⟨h.1, h.2.1, h.2.2.2, h.2.2.1⟩
  · exact h
theorem addR_cases (l : List S28) (t : S28) : (addR l t).2.2 ≠ 0 ∨ (addR l t).1 = l ∨ ((addR l t).1 = l ++ [turnT t] ∧ l.length < 400) := by
  unfold addR
  split
  · rename_i hr
    have hl : l.length ≤ 400 := of_decide_eq_true (Bool.and_eq_true_iff.1 hr).2
    split
    · split
      · exact .inr (.inl rfl)
      · split
        · exact .inl (by decide)
        · exact .inr (.inr ⟨rfl, by omega⟩)
    · exact .inl (by decide)
  · exact .inl (by decide)
theorem step_ok {s : StC} (h : okS s) {x : It} (hx : okIt x) : okS (stepI s x).1 ∧ s.1 <+: (stepI s x).1.1 := by
  cases x with
  | put i => exact ⟨h, List.prefix_refl _⟩
  | add t =>
    show okS (cookA s t).1 ∧ s.1 <+: (cookA s t).1.1
    unfold cookA
    split
    · rename_i h0
      rcases addR_cases s.1 t with h1 | h1 | ⟨h1, h2⟩
      · exact absurd h0 h1
      · rw [h1]; exact ⟨h, List.prefix_refl _⟩
      · rw [h1]
        refine ⟨⟨by rw [List.length_append, List.length_singleton]; omega, fun u hu => ?_⟩, List.prefix_append _ _⟩
        rcases List.mem_append.1 hu with hu | hu
        · exact h.2 u hu
        · rw [List.mem_singleton.1 hu]; exact wf_turn hx
    · exact ⟨h, List.prefix_refl _⟩
theorem stL_ok : ∀ (D : List It) {s : StC}, okS s → (∀ x ∈ D, okIt x) → okS (stL s D) ∧ s.1 <+: (stL s D).1
  | [], s, h, _ => ⟨h, List.prefix_refl _⟩
  | x :: D, s, h, hD => by
    obtain ⟨h1, h2⟩ := step_ok h (hD x (List.mem_cons_self ..))
    obtain ⟨h3, h4⟩ := stL_ok D h1 fun y hy => hD y (List.mem_cons_of_mem _ hy)
    exact ⟨h3, h2.trans h4⟩
/-- What comes of a place; of two. -/
def it2 (l : List S28) (x : Int) : List It := [.add ⟨1, 0, x, 0⟩, .add ⟨3, 0, x, 0⟩, .put (if (rd_T28 l x).f0 = 4 then (rd_T28 l x).f2 else -1), .put (if (rd_T28 l x).f0 = 4 then (rd_T28 l x).f3 else -1)]
def it3 (l : List S28) (x y : Int) : List It := [if (rd_T28 l y).f0 = 1 then .add ⟨2, 0, x, (rd_T28 l y).f2⟩ else .put (-1), .add ⟨4, 0, x, y⟩, .put (if (rd_T28 l y).f0 = 5 ∧ (rd_T28 l y).f2 = x then (rd_T28 l y).f3 else -1), .add ⟨6, 0, x, y⟩]
def items (l : List S28) (fr : List Int) : List It := fr.map .put ++ (fr.flatMap (it2 l) ++ fr.flatMap fun x => fr.flatMap (it3 l x))
/-- Rows of terms stay. -/
def Keep28 (W W' : World) : Prop := ∀ (k : Nat) (cur : Array Value), W.heap[k]? = some (Obj.cells cur 28 (0, 0)) → W'.heap[k]? = some (Obj.cells cur 28 (0, 0))
/-- Where the iterator stands: the list at work, its boxes, the frame. -/
def ItS (g gc gf : Nat) (A0 Af : Option Addr) (cf : Nat) (fr : List Int) (s : StC) (W : World) : Prop :=
  CookB W g A0 s ∧ W.heap[gc]? = some (.cells #[.pointer (some ⟨g, 0, none⟩)] 87 (0, 0)) ∧ W.heap[gf]? = some (.cells #[.slice Af fr.length cf] 33 (0, 0)) ∧ (Kd.int .i64).C W Af fr.length fr
theorem CI_box {W W' : World} {A : Option Addr} {n : Nat} {l : List Int} {g t : Nat} {cur : Array Value} (hC : (Kd.int .i64).C W A n l) (hg : W.heap[g]? = some (.cells cur t (0, 0))) (hv : ∀ v ∈ cur, ∀ k i, v ≠ .int k i) (hb : W.grownBy W' (some g)) : (Kd.int .i64).C W' A n l := by
  refine ⟨hC.1, hC.2.1, fun hn => ?_⟩
  obtain ⟨ad, e, hc⟩ := hC.2.2 hn
  refine ⟨ad, e, fun j p hj => ?_⟩
  obtain ⟨c, hs, hr, hcell⟩ := hc j p hj
  refine ⟨c, hs, hr, fun i u hu => ?_⟩
  have h := hcell i u hu
  have hint : ∃ k z, u = .int k z := by
    have hr' : c = [.int .i64 p] := hr
    subst hr'
    match i, hu with
    | 0, hu => exact ⟨_, _, (Option.some.inj hu).symm⟩
  obtain ⟨k, z, rfl⟩ := hint
  generalize ad.add (j * _ + i) = q at h ⊢
  have hne : q.block ≠ g := fun e => by
    unfold World.cell? at h
    rw [e, hg] at h
    have h' : (if q.spot.isSome = true then none else cur[q.off]?) = some (.int k z) := h
    by_cases hs : q.spot.isSome = true
    · rw [if_pos hs] at h'; cases h'
    · rw [if_neg hs] at h'
      exact hv _ (Array.mem_of_getElem? h') k z rfl
  have hlt : q.block < W.heap.size := by
    rcases Nat.lt_or_ge q.block W.heap.size with hl | hl
    · exact hl
    · unfold World.cell? at h
      rw [Array.getElem?_eq_none (by omega)] at h
      cases h
  unfold World.cell? at h ⊢
  rw [hb.block _ hlt (fun e => hne (by injection e))]
  exact h
theorem cook_vals {W : World} {g : Nat} {A0 : Option Addr} {s : StC} (h : CookB W g A0 s) : ∃ cur, W.heap[g]? = some (.cells cur 89 (0, 0)) ∧ ∀ v ∈ cur, ∀ k i, v ≠ .int k i := by
  obtain ⟨A, c, hb, _⟩ := h
  refine ⟨_, hb, fun v hv k i e => ?_⟩
  subst e
  simp at hv
theorem blk_ne {W : World} {g k t u : Nat} {cur cur' : Array Value} (h1 : W.heap[g]? = some (.cells cur t (0, 0))) (h2 : W.heap[k]? = some (.cells cur' u (0, 0))) (hne : t ≠ u) : some k ≠ some g := by
  intro e
  injection e with e
  subst e
  rw [h1] at h2
  injection h2 with h2
  injection h2 with _ h2
  exact hne h2
/-- Nothing that was there turns. -/
theorem itS_below {g gc gf : Nat} {A0 Af : Option Addr} {cf : Nat} {fr : List Int} {s : StC} {W W' : World} (h : ItS g gc gf A0 Af cf fr s W) (hb : Below W.heap.size W W') : ItS g gc gf A0 Af cf fr s W' := by
  obtain ⟨⟨A, c, h1, h2, h3, h4⟩, h5, h6, h7⟩ := h
  exact ⟨⟨A, c, (hb.block _ (blk_lt h1)).trans h1, h2, Kd.C_below h3 hb, h4.imp id fun h ad e => by obtain ⟨cu, hc⟩ := h ad e; exact ⟨cu, (hb.block _ (blk_lt hc)).trans hc⟩⟩, (hb.block _ (blk_lt h5)).trans h5, (hb.block _ (blk_lt h6)).trans h6, Kd.C_below h7 hb⟩
/-- The list at work takes a term. -/
theorem itS_cook {g gc gf : Nat} {A0 Af : Option Addr} {cf : Nat} {fr : List Int} {s s' : StC} {W W' : World} (h : ItS g gc gf A0 Af cf fr s W) (hc : CookB W' g A0 s') (hb : W.grownBy W' (some g)) : ItS g gc gf A0 Af cf fr s' W' ∧ Keep28 W W' := by
  obtain ⟨h1, h5, h6, h7⟩ := h
  obtain ⟨cur, hg, hv⟩ := cook_vals h1
  exact ⟨⟨hc, (hb.block _ (blk_lt h5) (blk_ne hg h5 (by decide))).trans h5, (hb.block _ (blk_lt h6) (blk_ne hg h6 (by decide))).trans h6, CI_box h7 hg hv hb⟩, fun k cu hk => (hb.block _ (blk_lt hk) (blk_ne hg hk (by decide))).trans hk⟩
theorem drop_int (l : List Int) (i : Nat) (h : i < l.length) : l.drop i = rd l (i : Int) :: l.drop (i + 1) := by
  rw [List.drop_eq_getElem_cons h]
  simp [rd, rdOf, h]
theorem rdI_nat (ks : List Int) (i : Nat) (h : i < ks.length) : rd ks (i : Int) = ks[i] := by simp [rd, rdOf, h]
theorem keep28_below {W W' : World} (hb : Below W.heap.size W W') : Keep28 W W' := fun k cu hk => (hb.block _ (blk_lt hk)).trans hk
theorem grown_any {W W' : World} (hb : Below W.heap.size W W') (g : Nat) : W.grownBy W' (some g) := ⟨hb.os, hb.tape, hb.output, hb.size, fun k hk _ => hb.block k hk⟩
theorem cook_at {g gc gf : Nat} {A0 Af : Option Addr} {cf : Nat} {fr : List Int} {s0 : StC} {D : List It} {W : World} (t : S28) (hS : ItS g gc gf A0 Af cf fr (stL s0 D) W) (hok : okS (stL s0 D)) :
    Calls Try.prog 68 #[.pointer (some ⟨g, 0, none⟩), tv t] W fun e W' => e = .returned (.int .i64 (stepI (stL s0 D) (.add t)).2) ∧ ItS g gc gf A0 Af cf fr (stL s0 (D ++ [.add t])) W' ∧ Keep28 W W' ∧ W.grownBy W' (some g) := by
  refine (cook_calls g A0 (stL s0 D) t W hS.1 (Nat.le_trans hok.1 (by decide)) hok.2).mono ?_
  rintro e W' ⟨rfl, hc, hg⟩
  rw [stL_snoc]
  obtain ⟨h1, h2⟩ := itS_cook (s' := (cookA (stL s0 D) t).1) hS hc hg
  exact ⟨rfl, h1, h2, hg⟩
theorem items_ok {l : List S28} {fr : List Int} (hl : l.length ≤ 400) (hwf : ∀ t ∈ l, wfT t) (hfr : ∀ x ∈ fr, 0 ≤ x ∧ x < l.length) : ∀ x ∈ items l fr, okIt x := by
  have w0 : ∀ x : Int, 0 ≤ x → x < l.length → (Lit.int .i64 x).wf = true := fun x h0 h1 => by
    have e1 : IntKind.i64.min = -9223372036854775808 := rfl
    have e2 : IntKind.i64.max = 9223372036854775807 := rfl
    simp [Lit.wf]
    omega
  have hrd : ∀ x ∈ fr, wfT (rd_T28 l x) := fun x hx => by
    obtain ⟨h0, h1⟩ := hfr x hx
    obtain ⟨j, rfl⟩ : ∃ j : Nat, x = (j : Int) := ⟨x.toNat, by omega⟩
    exact hwf _ (rd28_mem l j (by omega))
  intro x hx
  unfold items at hx
  rcases List.mem_append.1 hx with hx | hx
  · obtain ⟨i, _, rfl⟩ := List.mem_map.1 hx
    trivial
  · rcases List.mem_append.1 hx with hx | hx
    · obtain ⟨i, hi, hx⟩ := List.mem_flatMap.1 hx
      obtain ⟨h0, h1⟩ := hfr i hi
      simp only [it2, List.mem_cons, List.not_mem_nil, or_false] at hx
      rcases hx with rfl | rfl | rfl | rfl
      · exact ⟨rfl, rfl, w0 i h0 h1, rfl⟩
      · exact ⟨rfl, rfl, w0 i h0 h1, rfl⟩
      · trivial
      · trivial
    · obtain ⟨i, hi, hx⟩ := List.mem_flatMap.1 hx
      obtain ⟨j, hj, hx⟩ := List.mem_flatMap.1 hx
      obtain ⟨h0, h1⟩ := hfr i hi
      obtain ⟨k0, k1⟩ := hfr j hj
      simp only [it3, List.mem_cons, List.not_mem_nil, or_false] at hx
      rcases hx with rfl | rfl | rfl | rfl
      · split
        · exact ⟨rfl, rfl, w0 i h0 h1, (hrd j hj).2.2.1⟩
        · trivial
      · exact ⟨rfl, rfl, w0 i h0 h1, w0 j k0 k1⟩
      · trivial
      · exact ⟨rfl, rfl, w0 i h0 h1, w0 j k0 k1⟩
theorem four_of {it D R : List It} {a b c d : It} (h : it = D ++ ([a, b, c, d] ++ R)) : (D ++ [a]) <+: it ∧ (D ++ [a] ++ [b]) <+: it ∧ (D ++ [a] ++ [b] ++ [c]) <+: it ∧ (D ++ [a] ++ [b] ++ [c] ++ [d]) <+: it ∧ it = (D ++ [a] ++ [b] ++ [c] ++ [d]) ++ R := by
  subst h
  exact ⟨⟨[b, c, d] ++ R, by simp⟩, ⟨[c, d] ++ R, by simp⟩, ⟨[d] ++ R, by simp⟩, ⟨R, by simp⟩, by simp⟩
theorem rd_prefix {l m : List S28} (h : l <+: m) (j : Nat) (hj : j < l.length) : rd_T28 m (j : Int) = rd_T28 l (j : Int) ∧ j < m.length := by
  obtain ⟨r, rfl⟩ := h
  have h2 : j < (l ++ r).length := by rw [List.length_append]; omega
  rw [rd28_nat _ j h2, rd28_nat l j hj]
  exact ⟨List.getElem_append_left hj, h2⟩
end Go.Proofs.Ytenmmeehgnkcpaa.Q
