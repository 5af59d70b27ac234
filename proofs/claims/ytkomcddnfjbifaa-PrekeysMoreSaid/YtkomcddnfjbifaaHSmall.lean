/- What few gives: at most ten shelves, of at most 22 points, with numbers of 64 bits. -/
import Derived.Test.YtkomcddnfjbifaaHFewAt
import Derived.Test.YtkomcddnfjbifaaHAlive
import Derived.Test.YtkomcddnfjbifaaHOpen
namespace Go.Proofs.Ytkomcddnfjbifaa.Q
open Go.RowKit Go.Proofs.YtkomcddnfjbifaaW.PrintWords Go.Proofs.YtkomcddnfjbifaaW.PrintLast Go.Proofs.YtkomcddnfjbifaaW.PrintMore
set_option linter.unusedVariables false
set_option linter.unusedSimpArgs false

/-- What few gives: at most ten shelves, of at most 22 points, with numbers of 64 bits. -/
def small (l : List S29) : Prop := l.length ≤ 10 ∧ (∀ s ∈ l, s.f3.length ≤ 22) ∧ (∀ s ∈ l, ∀ p ∈ s.f3, (Lit.int .u64 p.f0).wf = true) ∧ ∀ s ∈ l, ∀ p ∈ s.f3, 0 ≤ p.f0
theorem small_few (l : List S29) (h : good22 l) : small (fewP l) := by
  have hm : ∀ s ∈ fewP l, ∃ t ∈ l, s = cutS t := by
    intro s hs
    obtain ⟨t, ht, rfl⟩ := List.mem_map.1 hs
    exact ⟨t, List.mem_of_mem_take ht, rfl⟩
  have hw : ∀ s ∈ fewP l, ∀ p ∈ s.f3, (Lit.int .u64 p.f0).wf = true := by
    intro s hs p hp
    obtain ⟨t, ht, rfl⟩ := hm s hs
    exact ((h.2 t ht).2.2.2.2 p (List.mem_of_mem_take hp)).1
  refine ⟨?_, ?_, hw, fun s hs p hp => (bounds_u64 (hw s hs p hp)).1⟩
  · unfold fewP
    rw [List.length_map, List.length_take]
    omega
  · intro s hs
    obtain ⟨t, ht, rfl⟩ := hm s hs
    show (t.f3.take 22).length ≤ 22
    rw [List.length_take]
    omega
theorem set_grown (w : World) (p : Addr) (v : Value) : w.grownBy (w.setCell p v) (some p.block) := ⟨rfl, rfl, rfl, by simp [World.setCell], fun k _ hk => Below.heap_setCell w p v k (fun e => hk (by rw [e]))⟩
theorem small_cut {x : S29} (h : good29 x) : (cutS x).f3.length ≤ 22 ∧ (∀ p ∈ (cutS x).f3, (Lit.int .u64 p.f0).wf = true) ∧ ∀ p ∈ (cutS x).f3, 0 ≤ p.f0 := by
  have hw : ∀ p ∈ (cutS x).f3, (Lit.int .u64 p.f0).wf = true := fun p hp => (h.2.2.2.2 p (List.mem_of_mem_take hp)).1
  refine ⟨?_, hw, fun p hp => (bounds_u64 (hw p hp)).1⟩
  show (x.f3.take 22).length ≤ 22
  rw [List.length_take]
  omega
end Go.Proofs.Ytkomcddnfjbifaa.Q
