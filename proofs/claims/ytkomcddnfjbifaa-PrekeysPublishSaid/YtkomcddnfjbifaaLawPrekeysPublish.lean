-- PRINTED by rowgen.py: the row of the law demurrallaw15_PrekeysPublish.
import Derived.Test.YtkomcddnfjbifaaRows
import Derived.Test.YtkomcddnfjbifaaHLawPublish
import Derived.Test.YtkomcddnfjbifaaHOpen
import Derived.Test.YtkomcddnfjbifaaWSized
import Derived.WalkKit
import Derived.ProofKit
import Derived.OpenShut
import Derived.ShutString
import Derived.ChangeOld
import Derived.Below
import Derived.SizedLaws
namespace Go.Proofs.Ytkomcddnfjbifaa.prekeysPublish
open Go.ChangeShapes Go.WideShapes Go.ChangeAt Go.RowKit
open Go.ChangeMaps (open_string shut_string)
open Go.Proofs.YtkomcddnfjbifaaW.PrintWords
set_option linter.unusedVariables false
theorem own : ownKnob Try.prog.godebug = none := by kernel_rfl
theorem laidOut : laidOutB Try.prog = true := by kernel_rfl
set_option maxRecDepth 100000 in
theorem lifted (os : Os) (started : os.Started) (H : Type) (enc : TypeId × Value → H) :
    ReturnsInHanded {} Try.checked os 6 .any (Rows.prekeysPublishSpec.pre6 enc Try.prog Try.f6 Rows.prekeysPublishRow.domain false) (Rows.prekeysPublishSpec.post enc Try.prog Try.f6 false true false false) := by
  refine returnsInHanded_of_change_sized (C := Try.checked) own started (by kernel_rfl) Try.func6
    (ChangeSpec.witness6 (enc := enc) (C := Try.checked) false ⟨#[], #[.slice none 0 0, .slice none 0 0, .agg #[.int .u64 0, .string ByteArray.empty, .int .u64 0, .string ByteArray.empty, .slice none 0 0]], []⟩ 8 (by kernel_rfl) (by kernel_rfl) (by kernel_rfl) (by kernel_rfl)) ?_
  intro W base args ds gs before hval0 hW hcnd hsz0 _
  have hsz : (DataW.weightsEach Try.prog (Try.f6.params.toList ++ Rows.prekeysPublishSpec.plain.varTypes Try.prog) (ds ++ gs)).all (· ≤ reachBytes) = true := hsz0
  have hval : ∀ (j : Nat) t v, Try.f6.params[j]? = some t → args[j]? = some v → Value.okWide Try.prog W .any base t v := hval0
  have hW' := hW
  obtain ⟨p, q, hA0, hV, rfl, hfz, hnd⟩ := hW
  have hA : DataW.TrodAll enc Try.prog W 0 (fun _ => true) true Try.f6.params.toList args.toList ds p := hA0
  rw [Try.params6] at hA hval hsz
  obtain ⟨v0, vs0, d0, ds0, p0, q0, hargs, rfl, rfl, h0, r0⟩ := trodAll_cons hA
  obtain ⟨v1, vs1, d1, ds1, p1, q1, rfl, rfl, rfl, h1, r1⟩ := trodAll_cons r0
  obtain ⟨v2, vs2, d2, ds2, p2, q2, rfl, rfl, rfl, h2, r2⟩ := trodAll_cons r1
  obtain ⟨rfl, rfl, rfl⟩ := trodAll_nil r2
  obtain rfl : args = #[v0, v1, v2] := by cases args; simp_all
  obtain ⟨rfl, rfl⟩ := trodVars_none hV
  have m0 : ∀ n ∈ d0.weights Try.prog 22, n ≤ reachBytes := fun n hn => by
    have := List.all_eq_true.1 hsz _ (DataW.weights_mem_each (j := 0) rfl rfl n hn)
    simpa using this
  have m1 : ∀ n ∈ d1.weights Try.prog 22, n ≤ reachBytes := fun n hn => by
    have := List.all_eq_true.1 hsz _ (DataW.weights_mem_each (j := 1) rfl rfl n hn)
    simpa using this
  have m2 : ∀ n ∈ d2.weights Try.prog 29, n ≤ reachBytes := fun n hn => by
    have := List.all_eq_true.1 hsz _ (DataW.weights_mem_each (j := 2) rfl rfl n hn)
    simpa using this
  have k0 := h0
  have lt0 : ∀ x ∈ p0, x.block < W.heap.size := by obtain ⟨m, hm⟩ := k0; exact DataW.trod_lt m _ _ _ hm
  obtain ⟨a0, len0, cap0, rfl⟩ := okWide_slice Try.underlying22 (hval 0 22 v0 rfl rfl)
  obtain ⟨l0, rfl, hc0, hr0, g0⟩ : ∃ l : List (Q.S29), len0 = l.length ∧ l.length ≤ cap0 ∧ Q.k29.C W a0 l.length l ∧ Q.good22 l := by
    obtain ⟨fuel, hf⟩ := h0
    obtain ⟨xs, ⟨A, c, hcs, hc, hC⟩, hG⟩ := Q.opens22 H enc W _ _ _ _ _ _ hf m0
    simp [Value.cells] at hcs
    obtain ⟨rfl, rfl, rfl⟩ := hcs
    exact ⟨xs, rfl, hc, hC, hG⟩
  have k1 := h1
  have lt1 : ∀ x ∈ p1, x.block < W.heap.size := by obtain ⟨m, hm⟩ := k1; exact DataW.trod_lt m _ _ _ hm
  obtain ⟨a1, len1, cap1, rfl⟩ := okWide_slice Try.underlying22 (hval 1 22 v1 rfl rfl)
  obtain ⟨l1, rfl, hc1, hr1, g1⟩ : ∃ l : List (Q.S29), len1 = l.length ∧ l.length ≤ cap1 ∧ Q.k29.C W a1 l.length l ∧ Q.good22 l := by
    obtain ⟨fuel, hf⟩ := h1
    obtain ⟨xs, ⟨A, c, hcs, hc, hC⟩, hG⟩ := Q.opens22 H enc W _ _ _ _ _ _ hf m1
    simp [Value.cells] at hcs
    obtain ⟨rfl, rfl, rfl⟩ := hcs
    exact ⟨xs, rfl, hc, hC, hG⟩
  have k2 := h2
  have lt2 : ∀ x ∈ p2, x.block < W.heap.size := by obtain ⟨m, hm⟩ := k2; exact DataW.trod_lt m _ _ _ hm
  obtain ⟨x2, hk2, g2⟩ : ∃ x : Q.S29, Q.k29.K W x v2.cells.toList ∧ Q.good29 x := by
    obtain ⟨fuel, hf⟩ := h2
    exact Q.opens29 H enc W _ _ _ _ _ _ hf m2
  obtain ⟨cs2, rfl, hs2⟩ := okWide_struct Try.underlying29 (hval 2 29 v2 rfl rfl)
  obtain ⟨A4_2, c4_2, he2, hl4_2, hC4_2⟩ := Q.k29_open hk2
  obtain rfl : cs2 = #[.int .u64 x2.f0, .string x2.f1, .int .u64 x2.f2.f0, .string x2.f2.f1, .slice A4_2 x2.f3.length c4_2] := Array.toList_inj.1 he2
  clear hA0 hval0 hsz0 hsz
  refine (Q.publish_walk _ _ l0 _ _ l1 x2 A4_2 c4_2 W hr0 hc0 hr1 hc1 hC4_2 hl4_2 g0 g1 g2).mono fun e W' ⟨he, bel⟩ => ?_
  subst he
  exact ⟨_, rfl, _, _, _, [], _, [], hW', trodAll_mk1 (shut_bool Try.underlying4 _), (trodAll_cons_mk (Below.trod laidOut (by kernel_rfl) (of_decide_eq_true (by kernel_rfl)) k0 bel lt0) (trodAll_cons_mk (Below.trod laidOut (by kernel_rfl) (of_decide_eq_true (by kernel_rfl)) k1 bel lt1) (trodAll_cons_mk (Below.trod laidOut (by kernel_rfl) (of_decide_eq_true (by kernel_rfl)) k2 bel lt2) trodAll_mk0))), rfl, bel.frame _, fun h => by cases h⟩
theorem over : Rows.prekeysPublishRow.holds Try.pinned (OpenSpec.ofChange Rows.prekeysPublishSpec) :=
  OpenClaim.holds_of_wide 6 Try.f6 rfl rfl rfl rfl rfl rfl rfl ⟨rfl, rfl, rfl, rfl, rfl⟩ rfl rfl rfl rfl rfl (by kernel_rfl) Try.func6 (by kernel_rfl)
    (of_decide_eq_true (by kernel_rfl)) (by unfold Func.isWrapper; first | (rw [if_pos (by decide +kernel)]; kernel_rfl) | (rw [if_neg (by decide +kernel)]; exact ⟨rfl, rfl⟩))
    (fun os started H enc _ => lifted os started H enc)
theorem proved : Rows.PrekeysPublishSaid := over
end Go.Proofs.Ytkomcddnfjbifaa.prekeysPublish
namespace Go.Proofs.Ytkomcddnfjbifaa
/-- The row, under a short name, for the claim. -/
theorem prekeysPublish_holds : Rows.PrekeysPublishSaid := prekeysPublish.proved
end Go.Proofs.Ytkomcddnfjbifaa
