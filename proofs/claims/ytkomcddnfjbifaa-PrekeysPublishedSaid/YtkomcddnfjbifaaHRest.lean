/- demurralref15.First and Rest, told with their very values; two boxes made anew.
   Conditions: the points are read as such. -/
import Derived.Test.YtkomcddnfjbifaaHFew
namespace Go.Proofs.Ytkomcddnfjbifaa.Q
open Go.RowKit Go.Proofs.YtkomcddnfjbifaaW.PrintWords Go.Proofs.YtkomcddnfjbifaaW.PrintLast Go.Proofs.YtkomcddnfjbifaaW.PrintMore
set_option linter.unusedVariables false
set_option linter.unusedSimpArgs false

theorem first_own (A : Option Addr) (c : Nat) (l : List S26) (n : Nat) (w : World) (hn : (l.take 1).length = n) (hc : l.length ≤ c) :
    Calls Try.prog 15 #[.slice A l.length c, .int .i64 1] w fun e w' => e = .returned (.slice A n c) ∧ w' = w := by
  rw [List.length_take] at hn
  by_cases h : (l.length : Int) < 1
  · obtain rfl : n = l.length := by omega
    clear hn
    go_enter Try.func15, Try.ntmps15
    go_wp2
    go_ret
    exact ⟨rfl, rfl⟩
  · obtain rfl : n = 1 := by omega
    obtain ⟨i0, hi0, _, hsz, _⟩ := info_parts info26
    have hcut := cut_to (P := Try.prog) 27 26 .i64 Try.underlying27 hi0 A l.length c 1 (by omega) (by omega) hc
    clear hi0
    have h1 : (1 : Int) ≤ l.length := by omega
    go_enter Try.func15, Try.ntmps15
    go_wp2
    go_ret
    exact ⟨rfl, rfl⟩
theorem rest_own (A : Option Addr) (c : Nat) (l : List S26) (hc : l.length ≤ c) :
    ∃ B c', (∀ w, Calls Try.prog 16 #[.slice A l.length c] w fun e w' => e = .returned (.slice B (l.drop 1).length c') ∧ w' = w) ∧ (l.drop 1).length ≤ c' ∧ ∀ w, k26.C w A l.length l → k26.C w B (l.drop 1).length (l.drop 1) := by
  rcases Nat.eq_zero_or_pos l.length with h | h
  · obtain rfl : l = [] := List.eq_nil_of_length_eq_zero h
    refine ⟨A, c, fun w => ?_, Nat.zero_le _, fun w h => h⟩
    go_enter Try.func16, Try.ntmps16
    go_wp2
    go_ret
    exact ⟨rfl, rfl⟩
  · obtain ⟨i0, hi0, _, hsz, _⟩ := info_parts info26
    have hcut := cut_from (P := Try.prog) 27 26 .i64 Try.underlying27 hi0 2 hsz A l.length c 1 (by omega) (by omega)
    have hd : (l.drop 1).length = l.length - 1 := List.length_drop
    refine ⟨if c = 1 then A else A.map (·.add (1 * 2)), c - 1, fun w => ?_, by omega, fun w hC => Kd.C_drop hC (by omega) hc⟩
    rw [hd]
    clear hi0 hd
    have hne : ¬ ((l.length : Int) = 0) := by omega
    have h1 : (1 : Int) ≤ l.length := by omega
    clear hcut
    by_cases hc1 : c = 1
    · subst hc1
      rw [if_pos rfl]
      have hl1 : l.length - 1 = 0 := by omega
      go_enter Try.func16, Try.ntmps16
      go_wp2
      go_ret
      exact ⟨by rw [hl1]; rfl, rfl⟩
    · rw [if_neg hc1]
      rcases A with _ | A
      · go_enter Try.func16, Try.ntmps16
        go_wp2
        go_ret
        exact ⟨rfl, rfl⟩
      · go_enter Try.func16, Try.ntmps16
        go_wp2
        go_ret
        exact ⟨rfl, rfl⟩
theorem alloc2 (w : World) (a b : Obj) : ((w.alloc a).alloc b).heap[w.heap.size]? = some a ∧ ((w.alloc a).alloc b).heap[w.heap.size + 1]? = some b ∧ Below w.heap.size w ((w.alloc a).alloc b) := by
  have hs : (w.alloc a).heap.size = w.heap.size + 1 := by simp
  refine ⟨((below_alloc (Below.refl _ _) b).block _ (blk_lt (heap_alloc_new w a))).trans (heap_alloc_new w a), ?_, below_alloc (below_alloc (Below.refl _ _) a) b⟩
  rw [← hs]
  exact heap_alloc_new _ _
end Go.Proofs.Ytkomcddnfjbifaa.Q
