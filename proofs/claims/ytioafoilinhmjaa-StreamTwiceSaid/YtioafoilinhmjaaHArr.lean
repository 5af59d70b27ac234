/- The memory of stream's sixteen words: an array of uint32 in one block; what a load, a store and a call leave of it.
   Conditions: the block holds sixteen cells of uint32. -/
import Derived.Test.YtioafoilinhmjaaQx0
import Derived.Handy
namespace Go.Proofs.Ytioafoilinhmjaa.Q
open Go.RowKit Go.Proofs.YtioafoilinhmjaaW.PrintWords Go.Proofs.YtioafoilinhmjaaW.PrintLast Go.Proofs.YtioafoilinhmjaaW.PrintMore
set_option linter.unusedVariables false
set_option linter.unusedSimpArgs false

/-- Block g holds n numbers of kind k, as an array of type t. -/
def ArrI (k : IntKind) (t n : Nat) (w : World) (g : Nat) (xs : List Int) : Prop := xs.length = n ∧ w.heap[g]? = some (.cells (nums k xs).toArray t (0, 0))
namespace ArrI
variable {k : IntKind} {t n g : Nat} {w w' : World} {xs : List Int}
theorem lt (h : ArrI k t n w g xs) : g < w.heap.size := (Array.getElem?_eq_some_iff.1 h.2).1
theorem cell (h : ArrI k t n w g xs) (i : Int) (h0 : 0 ≤ i) (h1 : i < n) : w.cell? ⟨g, i.toNat, none⟩ = some (.int k (rd xs i)) := by
  have hl : i.toNat < xs.length := by have := h.1; omega
  simp [World.cell?, h.2, nums, rd, List.getElem?_eq_getElem hl]
theorem free (h : ArrI k t n w g xs) (a : Nat) : w.frozen? ⟨g, a, none⟩ = false := by
  simp [World.frozen?, h.2]
theorem set_ (h : ArrI k t n w g xs) (i : Nat) (v : Int) : ArrI k t n (w.setCell ⟨g, i, none⟩ (.int k v)) g (xs.set i v) := by
  refine ⟨by rw [List.length_set]; exact h.1, ?_⟩
  rw [heap_setCell_same w g i _ t _ h.2]
  simp [nums, List.map_set]
theorem below (h : ArrI k t n w g xs) (hb : Below w.heap.size w w') : ArrI k t n w' g xs := ⟨h.1, (hb.block g h.lt).trans h.2⟩
theorem grown (h : ArrI k t n w g xs) {row : Option Nat} (hg : w.grownBy w' row) (hr : some g ≠ row) : ArrI k t n w' g xs := ⟨h.1, (hg.block g h.lt hr).trans h.2⟩
theorem drew (h : ArrI k t n w g xs) : ArrI k t n w.drew g xs := h
end ArrI
theorem grown_set (w : World) (g i : Nat) (v : Value) : w.grownBy (w.setCell ⟨g, i, none⟩ v) (some g) :=
  ⟨rfl, rfl, rfl, by simp, fun k _ hk => heap_setCell_other w ⟨g, i, none⟩ k v (fun e => hk (by simp [e]))⟩
theorem grown_below {w w' : World} (h : Below w.heap.size w w') (row : Option Nat) : w.grownBy w' row := grown_of_below h row
theorem grown_trans {w w1 w2 : World} {row : Option Nat} (h : w.grownBy w1 row) (k : w1.grownBy w2 row) : w.grownBy w2 row := World.grownBy.trans h k
end Go.Proofs.Ytioafoilinhmjaa.Q
