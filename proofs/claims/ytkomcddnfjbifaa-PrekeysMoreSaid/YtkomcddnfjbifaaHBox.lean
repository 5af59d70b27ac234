/- A struct that is stored whole into a box of one's own. -/
import Derived.Test.YtkomcddnfjbifaaHRepl
namespace Go.Proofs.Ytkomcddnfjbifaa.Q
open Go.RowKit Go.Proofs.YtkomcddnfjbifaaW.PrintWords Go.Proofs.YtkomcddnfjbifaaW.PrintLast Go.Proofs.YtkomcddnfjbifaaW.PrintMore
set_option linter.unusedVariables false
set_option linter.unusedSimpArgs false

theorem setCells_box {g : Nat} {e : TypeId} (W : World) (cur : Array Value) (seg : List Value) (hh : W.heap[g]? = some (.cells cur e (0, 0))) (hl : cur.size = seg.length) :
    (W.setCells g 0 seg).heap[g]? = some (.cells seg.toArray e (0, 0)) ∧ W.grownBy (W.setCells g 0 seg) (some g) ∧ (W.setCells g 0 seg).heap.size = W.heap.size := by
  obtain ⟨cur', h3, h4, h5⟩ := setCells_row seg 0 W cur hh (by omega)
  obtain ⟨s1, s2, s3, s4⟩ := setCells_same g seg 0 W
  refine ⟨?_, ⟨s1, s2, s3, by rw [s4]; exact Nat.le_refl _, fun k _ hk => setCells_far seg 0 k (fun he => hk (by rw [he]))⟩, s4⟩
  rw [h3]
  congr 2
  apply Array.ext'
  rw [h5, List.take_zero, List.nil_append, List.drop_eq_nil_of_le (by rw [Array.length_toList]; omega), List.append_nil]
theorem wpList_storeBox {P : Program} {ops : Array Oper} {rest : List Oper} {o : Oper} {a : Act} {Q : Exit → Act → World → Prop} {W : World} (hN : o.dst = none) (hgd : o.guard = none) (t : TypeId) (p x : Operand) (ho : o.op = .store t p x) {g : Nat} {e : TypeId} {cur : Array Value} (u : Value) (seg : List Value)
    (haddr : a.eval p = .pointer (some ⟨g, 0, none⟩)) (hx : a.eval x = u) (hu : u.cells.toList = seg) (ht : (P.info? t).map (·.size) = some seg.length) (h1 : ∀ q ∈ seg, q.oneCell' = true)
    (hh : W.heap[g]? = some (.cells cur e (0, 0))) (hl : cur.size = seg.length)
    (h : ∀ W', W'.heap[g]? = some (.cells seg.toArray e (0, 0)) → W.grownBy W' (some g) → W'.heap.size = W.heap.size → wpList P ops Q rest a W') : wpList P ops Q (o :: rest) a W := by
  obtain ⟨b1, b2, b3⟩ := setCells_box W cur seg hh hl
  refine wpList_plain hgd fun K hK => ?_
  have hrun := run_store_run (P := P) (w := W) (g := g) (o := 0) t u seg hh hu ht (by omega) h1
  unfold Oper.wp execOp
  simp only [ho, haddr, hx, Sem.run_bind, Sem.run_pure, Result.andThen_ok, hrun]
  show K (a.put o.dst undef) _
  rw [hN]
  exact hK _ _ (h _ b1 b2 b3)
/-- The same within a region that draws its order. -/
theorem skip_storeBox {P : Program} {ops : Array Oper} {Q : Exit → Act → World → Prop} {oi : Oper} {a : Act} {W : World} {K : Act → World → Prop} (hw : Region.wanted oi (yielded ops a.tmps) = true) (hN : oi.dst = none) (t : TypeId) (p x : Operand) (ho : oi.op = .store t p x) {g : Nat} {e : TypeId} {cur : Array Value} (u : Value) (seg : List Value)
    (haddr : a.eval p = .pointer (some ⟨g, 0, none⟩)) (hx : a.eval x = u) (hu : u.cells.toList = seg) (ht : (P.info? t).map (·.size) = some seg.length) (h1 : ∀ q ∈ seg, q.oneCell' = true)
    (hh : W.heap[g]? = some (.cells cur e (0, 0))) (hl : cur.size = seg.length)
    (h : ∀ W', W'.heap[g]? = some (.cells seg.toArray e (0, 0)) → W.grownBy W' (some g) → W'.heap.size = W.heap.size → K a W') :
    if Region.wanted oi (yielded ops a.tmps) = true then Oper.wp P oi a W K Q else K (a.put none undef) W := by
  obtain ⟨b1, b2, b3⟩ := setCells_box W cur seg hh hl
  refine skip_ hw hN ?_ (h _ b1 b2 b3)
  have hrun := run_store_run (P := P) (w := W) (g := g) (o := 0) t u seg hh hu ht (by omega) h1
  unfold execOp
  simp only [ho, haddr, hx, Sem.run_bind, Sem.run_pure, Result.andThen_ok, hrun]
end Go.Proofs.Ytkomcddnfjbifaa.Q
