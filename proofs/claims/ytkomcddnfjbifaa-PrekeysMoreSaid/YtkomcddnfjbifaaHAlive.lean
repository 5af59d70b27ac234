/- demurrallaw15.alive: a shelf published, and asked for: always true. -/
import Derived.Test.YtkomcddnfjbifaaHPublish
namespace Go.Proofs.Ytkomcddnfjbifaa.Q
open Go.RowKit Go.Proofs.YtkomcddnfjbifaaW.PrintWords Go.Proofs.YtkomcddnfjbifaaW.PrintLast Go.Proofs.YtkomcddnfjbifaaW.PrintMore
set_option linter.unusedVariables false
set_option linter.unusedSimpArgs false

abbrev keyA : ByteArray := ⟨#[48, 49, 50, 51, 52, 53, 54, 55, 56, 57, 97, 98, 99, 100, 101, 102, 48, 49, 50, 51, 52, 53, 54, 55, 56, 57, 97, 98, 99, 100, 101, 102]⟩
def sA : S29 := { f0 := 3, f1 := keyA, f2 := { f0 := 0, f1 := keyA }, f3 := [{ f0 := 1, f1 := keyA }] }
theorem right_nil : rightB [] = true := rfl
theorem shelf_sA : shelfB sA = true := by decide
theorem right_sA : rightB [sA] = true := by decide
theorem alive_pub {e : Ending} {w' : World} (h : PubE [] sA e w') : ∃ A c, e = .returned (.tuple #[.slice A 1 c, .int .i64 0]) ∧ 1 ≤ c ∧ k29.C w' A 1 [sA] := by
  rcases h with ⟨h, _⟩ | ⟨_, _, i, ⟨h, _⟩ | ⟨h, _⟩ | ⟨_, h, _⟩ | ⟨_, _, A, c, rfl, h1, h2⟩⟩
  · rw [right_nil, shelf_sA] at h; cases h
  · simp at h
  · simp at h
  · simp at h
  · exact ⟨A, c, rfl, h1, by simpa using h2⟩
theorem alive_left {e : Ending} (h : LeftE [sA] 3 e) : e = .returned (.tuple #[.int .i64 1, .int .i64 0]) := by
  rcases h with ⟨h, _⟩ | ⟨_, h, _⟩ | ⟨_, i, hi, _, rfl⟩
  · rw [right_sA] at h; cases h
  · exact absurd rfl (h 0 (by simp))
  · obtain rfl : i = 0 := by simpa using hi
    rfl
theorem wf_sA : ∀ p ∈ sA.f3, (Lit.int .u64 p.f0).wf = true := by
  intro p hp
  obtain rfl : p = { f0 := 1, f1 := keyA } := by simpa [sA] using hp
  decide
set_option maxHeartbeats 1000000 in
set_option maxRecDepth 100000 in
theorem alive_calls (w : World) : Calls Try.prog 13 #[] w fun e w' => e = .returned (.bool true) ∧ Below w.heap.size w w' := by
  obtain ⟨w1, hw1⟩ : ∃ w1, w.alloc (.cells #[.int .u64 1, .string keyA] 26 (0, 0)) = w1 := ⟨_, rfl⟩
  have hb1 : Below w.heap.size w w1 := by rw [← hw1]; exact below_alloc (Below.refl _ _) _
  have hK1 : w1.heap[w.heap.size]? = some (.cells #[.int .u64 1, .string keyA] 26 (0, 0)) := by rw [← hw1]; exact heap_alloc_new _ _
  have hC1 : Kd.C k26 w1 (some ⟨w.heap.size, 0, none⟩) sA.f3.length sA.f3 := by
    refine ⟨rfl, by simp [sA], fun _ => ⟨_, rfl, fun j p hj => ?_⟩⟩
    rcases j with _ | j
    · obtain rfl : p = { f0 := 1, f1 := keyA } := by simpa [sA] using hj.symm
      refine ⟨[.int .u64 1, .string keyA], rfl, k26_mk _ _, fun i u hu => ?_⟩
      rw [Addr.add_lit, show 0 + (0 * k26.sz + i) = i by omega, blk_cell hK1]
      simpa using hu
    · simp [sA] at hj
  have hP := Aside0.mk (publish_calls none 0 [] sA (some ⟨w.heap.size, 0, none⟩) 1 w1 (Kd.C_nil _ _) (Nat.le_refl _) (by simp) (by simp) hC1 (by simp [sA]) wf_sA)
  replace hK1 := Lib.hid hK1
  replace hC1 := Lib.hid hC1
  go_enter Try.func13, Try.ntmps13
  go_wp2_with fail
  refine hP.out.mono ?_; rintro e_ w2 ⟨hpe, hb2⟩
  obtain ⟨A, c, rfl, hc, hC⟩ := alive_pub hpe
  have hL := Aside0.mk (left_calls A c [sA] 3 w2 hC hc (by simp) (List.forall_mem_singleton.2 wf_sA))
  replace hC := Lib.hid hC
  go_wp2_with fail
  refine hL.out.mono ?_; rintro e_ w3 ⟨hle, hb3⟩
  obtain rfl := alive_left hle
  go_wp2
  go_ret
  exact ⟨rfl, below_step hb1 (below_step hb2 hb3)⟩
end Go.Proofs.Ytkomcddnfjbifaa.Q
