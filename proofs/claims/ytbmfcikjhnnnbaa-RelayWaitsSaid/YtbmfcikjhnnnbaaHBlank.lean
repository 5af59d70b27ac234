/- The world without some of its blocks: what is read in it does not lean on them.
   Conditions: none. -/
import Derived.Test.YtbmfcikjhnnnbaaHField
namespace Go.Proofs.Ytbmfcikjhnnnbaa.Q
open Go.RowKit Go.Proofs.YtbmfcikjhnnnbaaW.PrintWords Go.Proofs.YtbmfcikjhnnnbaaW.PrintLast Go.Proofs.YtbmfcikjhnnnbaaW.PrintMore
set_option linter.unusedVariables false
set_option linter.unusedSimpArgs false

open Classical in
/-- The world without the blocks of S. -/
noncomputable def bs (S : Nat → Prop) (W : World) : World := { W with heap := W.heap.mapIdx fun k o => if S k then Obj.cells #[] 25 (0, 0) else o }
section
variable {S S' : Nat → Prop} {w W : World} {k n g g' : Nat}
theorem bs_none (h : W.heap[k]? = none) : (bs S W).heap[k]? = none := by simp only [bs, Array.getElem?_mapIdx, h, Option.map_none]
theorem bs_in (h : S k) : (bs S W).heap[k]? = some (.cells #[] 25 (0, 0)) ∨ (bs S W).heap[k]? = none := by
  simp only [bs, Array.getElem?_mapIdx]
  cases W.heap[k]? with
  | none => exact .inr rfl
  | some o => exact .inl (by simp [h])
theorem bs_ne (h : ¬ S k) : (bs S W).heap[k]? = W.heap[k]? := by
  simp only [bs, Array.getElem?_mapIdx]
  cases W.heap[k]? with
  | none => rfl
  | some o => simp [h]
theorem bs_eq (h : W.heap[k]? = w.heap[k]?) : (bs S W).heap[k]? = (bs S w).heap[k]? := by simp only [bs, Array.getElem?_mapIdx, h]
theorem bs_size : (bs S W).heap.size = W.heap.size := by simp [bs]
theorem bs_below (h : Below n w W) : Below n (bs S w) (bs S W) := ⟨h.os, h.tape, h.output, by rw [bs_size, bs_size]; exact h.size, fun k hk => bs_eq (h.block k hk)⟩
theorem bs_cell {p : Addr} {v : Value} (h : (bs S W).cell? p = some v) : ¬ S p.block ∧ W.cell? p = some v := by
  have h0 : ¬ S p.block := fun hs => by
    unfold World.cell? at h
    rcases bs_in (W := W) hs with e | e
    · rw [e] at h
      simp at h
    · rw [e] at h
      cases h
  refine ⟨h0, ?_⟩
  unfold World.cell? at h ⊢
  rwa [bs_ne h0] at h
theorem bs_sees : Sees (bs S W) W := fun _ _ h => (bs_cell h).2
theorem cell_lt {p : Addr} {v : Value} (h : W.cell? p = some v) : p.block < W.heap.size := by
  rcases Nat.lt_or_ge p.block W.heap.size with hl | hl
  · exact hl
  · unfold World.cell? at h
    rw [Array.getElem?_eq_none (by omega)] at h
    cases h
/-- The world goes on; the blocks of S may be written, new ones may join them. -/
theorem bs_step (h : ∀ k, k < w.heap.size → ¬ S k → W.heap[k]? = w.heap[k]?) (hS : ∀ k, S' k → S k ∨ w.heap.size ≤ k) : Sees (bs S w) (bs S' W) := fun p v hp => by
  obtain ⟨h0, h1⟩ := bs_cell hp
  have hlt := cell_lt h1
  have h2 : ¬ S' p.block := fun hs => by
    rcases hS _ hs with e | e
    · exact h0 e
    · omega
  unfold World.cell? at h1 ⊢
  rwa [bs_ne h2, h _ hlt h0]
theorem bs_empty : Sees W (bs (fun _ => False) W) := fun p v hp => by
  unfold World.cell? at hp ⊢
  rwa [bs_ne (by simp)]
theorem bs_keep2 (h : Keep2 w W g g') : Keep2 (bs S w) (bs S W) g g' := ⟨by rw [bs_size, bs_size]; exact h.1, fun k hk h0 h1 => bs_eq (h.2 k (by rwa [bs_size] at hk) h0 h1)⟩
theorem bs_R {α : Type} {d : Kd α} {e base : Nat} {ok : Nat → Prop} {v : Value} {xs : List α} (h : Kd.R d e W base ok v xs) (hS : ∀ k, S k → k < base) : Kd.R d e (bs S W) base ok v xs :=
  Kd.R_mono (Kd.R_step (Kd.R_bound h) (fun k hk _ => bs_ne (fun hs => by have := hS k hs; have := hk.2.1; omega))) (fun _ hk => hk.1)
theorem bs_S {e base : Nat} {α : Type} {d : Kd α} {ok : Nat → Prop} {v : Value} {xs : List α} (h : Kd.S d e W base ok v xs) (hS : ∀ k, S k → k < base) : Kd.S d e (bs S W) base ok v xs :=
  Kd.S_mono (Kd.S_step (Kd.S_bound h) (fun k hk _ => bs_ne (fun hs => by have := hS k hs; have := hk.2.1; omega))) (fun _ hk => hk.1)
end
theorem sees_B57 {w0 w : World} {A : Option Addr} {n : Nat} {xs : List S57} (h : Sees w0 w) (hC : k57.C w0 A n xs) : k57.C w A n xs :=
  ⟨hC.1, hC.2.1, fun hn => by
    obtain ⟨ad, e, hc⟩ := hC.2.2 hn
    refine ⟨ad, e, fun j p hj => ?_⟩
    obtain ⟨c, hs, hr, hcell⟩ := hc j p hj
    exact ⟨c, hs, sees_K57 h hr, fun i u hu => h _ _ (hcell i u hu)⟩⟩
/-- The headers are read in the one world, their rows in the other. -/
theorem C_krB {w0 w : World} {A : Option Addr} {n : Nat} {xs : List S57} (h : Sees w0 w) (hC : k57.C w0 A n xs) : (kr w0).C w A n xs :=
  ⟨hC.1, hC.2.1, fun hn => by
    obtain ⟨ad, e, hc⟩ := hC.2.2 hn
    refine ⟨ad, e, fun j p hj => ?_⟩
    obtain ⟨c, hs, hr, hcell⟩ := hc j p hj
    exact ⟨c, hs, hr, fun i u hu => h _ _ (hcell i u hu)⟩⟩
theorem sees_trans {a b c : World} (h : Sees a b) (k : Sees b c) : Sees a c := fun _ _ hp => k _ _ (h _ _ hp)
end Go.Proofs.Ytbmfcikjhnnnbaa.Q
