/- StreamBlocks: any four words mixed, and any block, are as the document says, or refused: the plain statement that is left behind the walk. -/
import Derived.Test.YtioafoilinhmjaaQx103
import Derived.Test.YtioafoilinhmjaaHPure
namespace Go.Proofs.Ytioafoilinhmjaa.Pure
open Go.RowKit Go.Proofs.Ytioafoilinhmjaa.Q Go.Proofs.YtioafoilinhmjaaW.PrintWords Go.Proofs.YtioafoilinhmjaaW.PrintLast

theorem empty_list : (⟨#[]⟩ : ByteArray).toList = [] := by
  unfold ByteArray.toList
  rw [ByteArray.toList.loop]
  rfl
theorem StreamBlocks : demurrallaw05_StreamBlocks.Pure := by
  intro a b c d key n nonce _ _ _ _ _ _ _
  obtain ⟨x, hx⟩ := cut_ok key
  obtain ⟨y, hy⟩ := cut_ok nonce
  obtain ⟨⟨q1, q2, q3, q4⟩, hq⟩ : ∃ q, quarterI a b c d = q := ⟨_, rfl⟩
  refine ⟨41, ?_⟩
  unfold demurrallaw05_StreamBlocks.f
  rw [hx, hy]
  simp only [Option.bind_some, stream_Quarter.f, quarter_eq, hq]
  by_cases h : x.size = 32 ∧ y.size = 12
  · rw [sblock_ok x y n h.1 h.2]
    simp only [Option.bind_some, beq_self_eq_true, Bool.not_true, Bool.or_self, Bool.false_eq_true, if_false, alive_ok]
    rw [demurrallaw05_StreamBlocks.j0, if_neg (by simp), may_iff, Option.bind_some, if_pos (by simpa using h), if_pos rfl, block_eq x y n h.1 h.2 0, Option.bind_some, beq_self_eq_true]
  · rw [sblock_no x y n h]
    simp only [Option.bind_some, beq_self_eq_true, Bool.not_true, Bool.or_self, Bool.false_eq_true, if_false, alive_ok]
    rw [demurrallaw05_StreamBlocks.j0, if_neg (by simp), may_iff, Option.bind_some, if_neg (by simpa using h), if_pos rfl, empty_list]
    rfl

end Go.Proofs.Ytioafoilinhmjaa.Pure
