-- PRINTED by print.py (a twelfth state) out of the translation. Not trusted: Lean checks it.
import Derived.Test.YtioafoilinhmjaaQx0
import Derived.Test.YtioafoilinhmjaaQx106
import Derived.Test.YtioafoilinhmjaaQx108
import Derived.Test.YtioafoilinhmjaaQx110
import Derived.Test.YtioafoilinhmjaaHQuarter
import Derived.Test.YtioafoilinhmjaaHStream
import Derived.Test.YtioafoilinhmjaaHXor
namespace Go.Proofs.Ytioafoilinhmjaa.Q
open Go.RowKit Go.Proofs.YtioafoilinhmjaaW.PrintWords Go.Proofs.YtioafoilinhmjaaW.PrintLast Go.Proofs.YtioafoilinhmjaaW.PrintMore
attribute [local go_sem] max2_int min2_int max_two min_two max_three min_three max_four min_four   -- for this text's walks alone
set_option linter.unusedVariables false
set_option linter.unusedSimpArgs false

/-! ### demurrallaw05_StreamTwice: function 5 -/
mutual
def demurrallaw05_StreamTwice.j0 : Nat → ByteArray → Int → ByteArray → Int → ByteArray → Int → ByteArray → Int → ByteArray → Int → ByteArray → Int → Bool → Option (Bool)
  | 0, _, _, _, _, _, _, _, _, _, _, _, _, _ => none
  | k + 1, x2, x7, x17, x18, x19, x20, x21, x22, x23, x24, x25, x26, x35 => if (x35 != (x7 == 0)) = true then (demurrallaw05_StreamTwice.j1 k x2 x17 x18 x19 x20 x21 x22 x23 x24 x25 x26 true) else ((demurrallaw05_alive.f).bind fun t238 => (demurrallaw05_StreamTwice.j1 k x2 x17 x18 x19 x20 x21 x22 x23 x24 x25 x26 (!t238)))
def demurrallaw05_StreamTwice.j1 : Nat → ByteArray → ByteArray → Int → ByteArray → Int → ByteArray → Int → ByteArray → Int → ByteArray → Int → Bool → Option (Bool)
  | 0, _, _, _, _, _, _, _, _, _, _, _, _ => none
  | k + 1, x2, x17, x18, x19, x20, x21, x22, x23, x24, x25, x26, x126 => if x126 = true then (some false) else (if x18 = 0 then (if x20 = 0 then (if x22 = 0 then (if x24 = 0 then (if x26 = 0 then (if x19.toList = x2.toList then (if (x17.size : Int) = (x2.size : Int) then (if (x21.size : Int) = 200 then (if 0 ≤ (x2.size : Int) then (if (x2.size : Int) ≤ (x21.size : Int) then (if (x21.extract 0 ((x2.size : Int) : Int).toNat).toList = x23.toList then (if 0 ≤ 64 then (if 64 ≤ (x21.size : Int) then (some ((x21.extract 0 64).toList == x25.toList)) else (none)) else (none)) else (some false)) else (none)) else (none)) else (some false)) else (some false)) else (some false)) else (some false)) else (some false)) else (some false)) else (some false)) else (if x20 = 0 then (some false) else (if x22 = 0 then (some false) else (some (x17.toList == ([] : List UInt8))))))
end
def demurrallaw05_StreamTwice.f (k : Nat) (a0 : ByteArray) (a1 : ByteArray) (a2 : ByteArray) (a3 : Int) (a4 : Int) (a5 : Int) (a6 : Int) (a7 : Int) : Option (Bool) := (demurrallaw05_cut.f a0).bind fun t218 => ((demurrallaw05_cut.f a1).bind fun t219 => (if 0 ≤ (mn (a2.size : Int) 200) then (if (mn (a2.size : Int) 200) ≤ (a2.size : Int) then ((stream_Xor.f t218 t219 (a2.extract 0 ((mn (a2.size : Int) 200) : Int).toNat)).bind fun bt220 => ((stream_Xor.f t218 t219 bt220.1).bind fun bt222 => ((stream_Stream.f t218 t219 200).bind fun bt224 => ((stream_Stream.f t218 t219 ((a2.extract 0 ((mn (a2.size : Int) 200) : Int).toNat).size : Int)).bind fun bt226 => ((stream_Block.f t218 1 t219).bind fun bt228 => ((stream_Quarter.f a3 a4 a5 a6).bind fun bt230 => ((stream_Quarter.f (Go.bits .xor .u32 a3 a7) a4 a5 a6).bind fun bt234 => (if bt230.1 = bt234.1 then (if bt230.2.1 = bt234.2.1 then (if bt230.2.2.1 = bt234.2.2.1 then (demurrallaw05_StreamTwice.j0 k (a2.extract 0 ((mn (a2.size : Int) 200) : Int).toNat) a7 bt220.1 bt220.2 bt222.1 bt222.2 bt224.1 bt224.2 bt226.1 bt226.2 bt228.1 bt228.2 (bt230.2.2.2 == bt234.2.2.2)) else (demurrallaw05_StreamTwice.j0 k (a2.extract 0 ((mn (a2.size : Int) 200) : Int).toNat) a7 bt220.1 bt220.2 bt222.1 bt222.2 bt224.1 bt224.2 bt226.1 bt226.2 bt228.1 bt228.2 false)) else (demurrallaw05_StreamTwice.j0 k (a2.extract 0 ((mn (a2.size : Int) 200) : Int).toNat) a7 bt220.1 bt220.2 bt222.1 bt222.2 bt224.1 bt224.2 bt226.1 bt226.2 bt228.1 bt228.2 false)) else (demurrallaw05_StreamTwice.j0 k (a2.extract 0 ((mn (a2.size : Int) 200) : Int).toNat) a7 bt220.1 bt220.2 bt222.1 bt222.2 bt224.1 bt224.2 bt226.1 bt226.2 bt228.1 bt228.2 false))))))))) else (none)) else (none)))
theorem demurrallaw05_StreamTwice.mono_l : ∀ k, (∀ y0 y1 y2 y3 y4 y5 y6 y7 y8 y9 y10 y11 y12, LeO (demurrallaw05_StreamTwice.j0 k y0 y1 y2 y3 y4 y5 y6 y7 y8 y9 y10 y11 y12) (demurrallaw05_StreamTwice.j0 (k + 1) y0 y1 y2 y3 y4 y5 y6 y7 y8 y9 y10 y11 y12)) ∧ (∀ y0 y1 y2 y3 y4 y5 y6 y7 y8 y9 y10 y11, LeO (demurrallaw05_StreamTwice.j1 k y0 y1 y2 y3 y4 y5 y6 y7 y8 y9 y10 y11) (demurrallaw05_StreamTwice.j1 (k + 1) y0 y1 y2 y3 y4 y5 y6 y7 y8 y9 y10 y11))
  | 0 => ⟨fun _ _ _ _ _ _ _ _ _ _ _ _ _ r h => by simp [demurrallaw05_StreamTwice.j0] at h, fun _ _ _ _ _ _ _ _ _ _ _ _ r h => by simp [demurrallaw05_StreamTwice.j1] at h⟩
  | k + 1 => by
    obtain ⟨ih0, ih1⟩ := demurrallaw05_StreamTwice.mono_l k
    refine ⟨?_, ?_⟩
    · intro y0 y1 y2 y3 y4 y5 y6 y7 y8 y9 y10 y11 y12
      unfold demurrallaw05_StreamTwice.j0
      repeat' first
      | (with_reducible exact ih0 _ _ _ _ _ _ _ _ _ _ _ _ _)
      | (with_reducible exact ih1 _ _ _ _ _ _ _ _ _ _ _ _)
      | (with_reducible exact LeO.refl _)
      | (with_reducible exact LeO.none _)
      | (with_reducible refine LeO.ite ?_ ?_)
      | (with_reducible refine LeO.bind ?_ (fun _ => ?_))
      | exact ih0 _ _ _ _ _ _ _ _ _ _ _ _ _
      | exact ih1 _ _ _ _ _ _ _ _ _ _ _ _
      | exact LeO.none _
      | refine LeO.ite ?_ ?_
      | refine LeO.bind ?_ (fun _ => ?_)
    · intro y0 y1 y2 y3 y4 y5 y6 y7 y8 y9 y10 y11
      unfold demurrallaw05_StreamTwice.j1
      repeat' first
      | (with_reducible exact ih0 _ _ _ _ _ _ _ _ _ _ _ _ _)
      | (with_reducible exact ih1 _ _ _ _ _ _ _ _ _ _ _ _)
      | (with_reducible exact LeO.refl _)
      | (with_reducible exact LeO.none _)
      | (with_reducible refine LeO.ite ?_ ?_)
      | (with_reducible refine LeO.bind ?_ (fun _ => ?_))
      | exact ih0 _ _ _ _ _ _ _ _ _ _ _ _ _
      | exact ih1 _ _ _ _ _ _ _ _ _ _ _ _
      | exact LeO.none _
      | refine LeO.ite ?_ ?_
      | refine LeO.bind ?_ (fun _ => ?_)
theorem demurrallaw05_StreamTwice.mono : ∀ a0 a1 a2 a3 a4 a5 a6 a7 k, LeO (demurrallaw05_StreamTwice.f k a0 a1 a2 a3 a4 a5 a6 a7) (demurrallaw05_StreamTwice.f (k + 1) a0 a1 a2 a3 a4 a5 a6 a7) := by
  intro a0 a1 a2 a3 a4 a5 a6 a7 k
  obtain ⟨ih0, ih1⟩ := demurrallaw05_StreamTwice.mono_l k
  unfold demurrallaw05_StreamTwice.f
  repeat' first
      | (with_reducible exact ih0 _ _ _ _ _ _ _ _ _ _ _ _ _)
      | (with_reducible exact ih1 _ _ _ _ _ _ _ _ _ _ _ _)
      | (with_reducible exact LeO.refl _)
      | (with_reducible exact LeO.none _)
      | (with_reducible refine LeO.ite ?_ ?_)
      | (with_reducible refine LeO.bind ?_ (fun _ => ?_))
      | exact ih0 _ _ _ _ _ _ _ _ _ _ _ _ _
      | exact ih1 _ _ _ _ _ _ _ _ _ _ _ _
      | exact LeO.none _
      | refine LeO.ite ?_ ?_
      | refine LeO.bind ?_ (fun _ => ?_)
def demurrallaw05_StreamTwice.T1 : Bool × List (List Nat × List Nat) := (true, [([], []), ([0], [0]), ([], []), ([2, 1], [2]), ([], []), ([], []), ([5], [5]), ([6], [6]), ([4, 7], [4, 7]), ([1, 3, 0, 1], [0, 1]), ([3, 9, 0, 1, 2, 3, 9], [2, 3]), ([8, 10, 0, 1, 2, 3, 4, 5, 6, 7, 8, 9, 10], [4, 5, 8])])
def demurrallaw05_StreamTwice.B1 : List Nat := [0, 1, 0, 7, 0, 0, 32, 96, 240, 15, 527, 2047]
theorem demurrallaw05_StreamTwice.tab1 : rtab .any (opsOf Try.f5 1) = demurrallaw05_StreamTwice.T1 := by kernel_rfl
theorem demurrallaw05_StreamTwice.bits1 : waitsOk demurrallaw05_StreamTwice.T1.2 demurrallaw05_StreamTwice.B1 = true := by kernel_rfl
set_option maxHeartbeats 8000000 in
set_option maxRecDepth 100000 in
theorem demurrallaw05_StreamTwice.calls (k : Nat) (a0 : ByteArray) (a1 : ByteArray) (a2 : ByteArray) (a3 : Int) (a4 : Int) (a5 : Int) (a6 : Int) (a7 : Int) (r : Bool) (w : World) (h : demurrallaw05_StreamTwice.f k a0 a1 a2 a3 a4 a5 a6 a7 = some r) :
    Calls Try.prog 5 #[.string a0, .string a1, .string a2, .int .u32 a3, .int .u32 a4, .int .u32 a5, .int .u32 a6, .int .u32 a7] w fun e w' => e = .returned (.bool r) ∧ Below w.heap.size w w' := by
  have HB := Aside0.mk (Below.refl w.heap.size w)
  have H : ((demurrallaw05_cut.f a0).bind fun t218 => ((demurrallaw05_cut.f a1).bind fun t219 => (if 0 ≤ (mn (a2.size : Int) 200) then (if (mn (a2.size : Int) 200) ≤ (a2.size : Int) then ((stream_Xor.f t218 t219 (a2.extract 0 ((mn (a2.size : Int) 200) : Int).toNat)).bind fun bt220 => ((stream_Xor.f t218 t219 bt220.1).bind fun bt222 => ((stream_Stream.f t218 t219 200).bind fun bt224 => ((stream_Stream.f t218 t219 ((a2.extract 0 ((mn (a2.size : Int) 200) : Int).toNat).size : Int)).bind fun bt226 => ((stream_Block.f t218 1 t219).bind fun bt228 => ((stream_Quarter.f a3 a4 a5 a6).bind fun bt230 => ((stream_Quarter.f (Go.bits .xor .u32 a3 a7) a4 a5 a6).bind fun bt234 => (if bt230.1 = bt234.1 then (if bt230.2.1 = bt234.2.1 then (if bt230.2.2.1 = bt234.2.2.1 then (demurrallaw05_StreamTwice.j0 k (a2.extract 0 ((mn (a2.size : Int) 200) : Int).toNat) a7 bt220.1 bt220.2 bt222.1 bt222.2 bt224.1 bt224.2 bt226.1 bt226.2 bt228.1 bt228.2 (bt230.2.2.2 == bt234.2.2.2)) else (demurrallaw05_StreamTwice.j0 k (a2.extract 0 ((mn (a2.size : Int) 200) : Int).toNat) a7 bt220.1 bt220.2 bt222.1 bt222.2 bt224.1 bt224.2 bt226.1 bt226.2 bt228.1 bt228.2 false)) else (demurrallaw05_StreamTwice.j0 k (a2.extract 0 ((mn (a2.size : Int) 200) : Int).toNat) a7 bt220.1 bt220.2 bt222.1 bt222.2 bt224.1 bt224.2 bt226.1 bt226.2 bt228.1 bt228.2 false)) else (demurrallaw05_StreamTwice.j0 k (a2.extract 0 ((mn (a2.size : Int) 200) : Int).toNat) a7 bt220.1 bt220.2 bt222.1 bt222.2 bt224.1 bt224.2 bt226.1 bt226.2 bt228.1 bt228.2 false))))))))) else (none)) else (none)))) = some r := h
  clear h
  replace H := Option.bind_eq_some_iff.mp H
  obtain ⟨t218, A90, H⟩ := H
  replace H : ((demurrallaw05_cut.f a1).bind fun t219 => (if 0 ≤ (mn (a2.size : Int) 200) then (if (mn (a2.size : Int) 200) ≤ (a2.size : Int) then ((stream_Xor.f t218 t219 (a2.extract 0 ((mn (a2.size : Int) 200) : Int).toNat)).bind fun bt220 => ((stream_Xor.f t218 t219 bt220.1).bind fun bt222 => ((stream_Stream.f t218 t219 200).bind fun bt224 => ((stream_Stream.f t218 t219 ((a2.extract 0 ((mn (a2.size : Int) 200) : Int).toNat).size : Int)).bind fun bt226 => ((stream_Block.f t218 1 t219).bind fun bt228 => ((stream_Quarter.f a3 a4 a5 a6).bind fun bt230 => ((stream_Quarter.f (Go.bits .xor .u32 a3 a7) a4 a5 a6).bind fun bt234 => (if bt230.1 = bt234.1 then (if bt230.2.1 = bt234.2.1 then (if bt230.2.2.1 = bt234.2.2.1 then (demurrallaw05_StreamTwice.j0 k (a2.extract 0 ((mn (a2.size : Int) 200) : Int).toNat) a7 bt220.1 bt220.2 bt222.1 bt222.2 bt224.1 bt224.2 bt226.1 bt226.2 bt228.1 bt228.2 (bt230.2.2.2 == bt234.2.2.2)) else (demurrallaw05_StreamTwice.j0 k (a2.extract 0 ((mn (a2.size : Int) 200) : Int).toNat) a7 bt220.1 bt220.2 bt222.1 bt222.2 bt224.1 bt224.2 bt226.1 bt226.2 bt228.1 bt228.2 false)) else (demurrallaw05_StreamTwice.j0 k (a2.extract 0 ((mn (a2.size : Int) 200) : Int).toNat) a7 bt220.1 bt220.2 bt222.1 bt222.2 bt224.1 bt224.2 bt226.1 bt226.2 bt228.1 bt228.2 false)) else (demurrallaw05_StreamTwice.j0 k (a2.extract 0 ((mn (a2.size : Int) 200) : Int).toNat) a7 bt220.1 bt220.2 bt222.1 bt222.2 bt224.1 bt224.2 bt226.1 bt226.2 bt228.1 bt228.2 false))))))))) else (none)) else (none))) = some r := H
  have A9 := Aside0.mk A90
  clear A90
  replace H := Option.bind_eq_some_iff.mp H
  obtain ⟨t219, A100, H⟩ := H
  replace H : (if 0 ≤ (mn (a2.size : Int) 200) then (if (mn (a2.size : Int) 200) ≤ (a2.size : Int) then ((stream_Xor.f t218 t219 (a2.extract 0 ((mn (a2.size : Int) 200) : Int).toNat)).bind fun bt220 => ((stream_Xor.f t218 t219 bt220.1).bind fun bt222 => ((stream_Stream.f t218 t219 200).bind fun bt224 => ((stream_Stream.f t218 t219 ((a2.extract 0 ((mn (a2.size : Int) 200) : Int).toNat).size : Int)).bind fun bt226 => ((stream_Block.f t218 1 t219).bind fun bt228 => ((stream_Quarter.f a3 a4 a5 a6).bind fun bt230 => ((stream_Quarter.f (Go.bits .xor .u32 a3 a7) a4 a5 a6).bind fun bt234 => (if bt230.1 = bt234.1 then (if bt230.2.1 = bt234.2.1 then (if bt230.2.2.1 = bt234.2.2.1 then (demurrallaw05_StreamTwice.j0 k (a2.extract 0 ((mn (a2.size : Int) 200) : Int).toNat) a7 bt220.1 bt220.2 bt222.1 bt222.2 bt224.1 bt224.2 bt226.1 bt226.2 bt228.1 bt228.2 (bt230.2.2.2 == bt234.2.2.2)) else (demurrallaw05_StreamTwice.j0 k (a2.extract 0 ((mn (a2.size : Int) 200) : Int).toNat) a7 bt220.1 bt220.2 bt222.1 bt222.2 bt224.1 bt224.2 bt226.1 bt226.2 bt228.1 bt228.2 false)) else (demurrallaw05_StreamTwice.j0 k (a2.extract 0 ((mn (a2.size : Int) 200) : Int).toNat) a7 bt220.1 bt220.2 bt222.1 bt222.2 bt224.1 bt224.2 bt226.1 bt226.2 bt228.1 bt228.2 false)) else (demurrallaw05_StreamTwice.j0 k (a2.extract 0 ((mn (a2.size : Int) 200) : Int).toNat) a7 bt220.1 bt220.2 bt222.1 bt222.2 bt224.1 bt224.2 bt226.1 bt226.2 bt228.1 bt228.2 false))))))))) else (none)) else (none)) = some r := H
  have A10 := Aside0.mk A100
  clear A100
  obtain ⟨ji11, hji11⟩ : ∃ j_ : Int, (mn (a2.size : Int) 200) = j_ := ⟨_, rfl⟩
  replace H : (if 0 ≤ (ji11) then (if (ji11) ≤ (a2.size : Int) then ((stream_Xor.f t218 t219 (a2.extract 0 ((ji11) : Int).toNat)).bind fun bt220 => ((stream_Xor.f t218 t219 bt220.1).bind fun bt222 => ((stream_Stream.f t218 t219 200).bind fun bt224 => ((stream_Stream.f t218 t219 ((a2.extract 0 ((ji11) : Int).toNat).size : Int)).bind fun bt226 => ((stream_Block.f t218 1 t219).bind fun bt228 => ((stream_Quarter.f a3 a4 a5 a6).bind fun bt230 => ((stream_Quarter.f (Go.bits .xor .u32 a3 a7) a4 a5 a6).bind fun bt234 => (if bt230.1 = bt234.1 then (if bt230.2.1 = bt234.2.1 then (if bt230.2.2.1 = bt234.2.2.1 then (demurrallaw05_StreamTwice.j0 k (a2.extract 0 ((ji11) : Int).toNat) a7 bt220.1 bt220.2 bt222.1 bt222.2 bt224.1 bt224.2 bt226.1 bt226.2 bt228.1 bt228.2 (bt230.2.2.2 == bt234.2.2.2)) else (demurrallaw05_StreamTwice.j0 k (a2.extract 0 ((ji11) : Int).toNat) a7 bt220.1 bt220.2 bt222.1 bt222.2 bt224.1 bt224.2 bt226.1 bt226.2 bt228.1 bt228.2 false)) else (demurrallaw05_StreamTwice.j0 k (a2.extract 0 ((ji11) : Int).toNat) a7 bt220.1 bt220.2 bt222.1 bt222.2 bt224.1 bt224.2 bt226.1 bt226.2 bt228.1 bt228.2 false)) else (demurrallaw05_StreamTwice.j0 k (a2.extract 0 ((ji11) : Int).toNat) a7 bt220.1 bt220.2 bt222.1 bt222.2 bt224.1 bt224.2 bt226.1 bt226.2 bt228.1 bt228.2 false))))))))) else (none)) else (none)) = some r := by first | (rw [hji11] at H; exact H) | (simp only [hji11] at H ⊢; exact H)
  (try rw [hji11] at A9)
  (try rw [hji11] at A10)
  (try (have hji11h : ji11 ≤ 200 := by (rw [← hji11]; unfold mn; (repeat' split) <;> omega)))
  (try (have hji11g : ji11 ≤ 64 := by omega))
  (try (have hji11l : 0 ≤ ji11 := by (rw [← hji11]; unfold mn; (repeat' split) <;> omega)))
  (try (have hji11m : 0 ≤ ji11 := by omega))
  have hji11_ : (if 200 < (a2.size : Int) then 200 else (a2.size : Int)) = ji11 := hji11
  by_cases c12 : 0 ≤ (ji11)
  · rw [if_pos c12] at H
    have c12b0 := eq_true c12
    have c12b1 : decide (0 ≤ (ji11)) = true := decide_eq_true c12
    clear c12
    by_cases c13 : (ji11) ≤ (a2.size : Int)
    · rw [if_pos c13] at H
      have c13b0 := eq_true c13
      have c13b1 : decide ((ji11) ≤ (a2.size : Int)) = true := decide_eq_true c13
      clear c13
      replace H := Option.bind_eq_some_iff.mp H
      obtain ⟨⟨t220, t221⟩, A140, H⟩ := H
      replace H : ((stream_Xor.f t218 t219 t220).bind fun bt222 => ((stream_Stream.f t218 t219 200).bind fun bt224 => ((stream_Stream.f t218 t219 ((a2.extract 0 ((ji11) : Int).toNat).size : Int)).bind fun bt226 => ((stream_Block.f t218 1 t219).bind fun bt228 => ((stream_Quarter.f a3 a4 a5 a6).bind fun bt230 => ((stream_Quarter.f (Go.bits .xor .u32 a3 a7) a4 a5 a6).bind fun bt234 => (if bt230.1 = bt234.1 then (if bt230.2.1 = bt234.2.1 then (if bt230.2.2.1 = bt234.2.2.1 then (demurrallaw05_StreamTwice.j0 k (a2.extract 0 ((ji11) : Int).toNat) a7 t220 t221 bt222.1 bt222.2 bt224.1 bt224.2 bt226.1 bt226.2 bt228.1 bt228.2 (bt230.2.2.2 == bt234.2.2.2)) else (demurrallaw05_StreamTwice.j0 k (a2.extract 0 ((ji11) : Int).toNat) a7 t220 t221 bt222.1 bt222.2 bt224.1 bt224.2 bt226.1 bt226.2 bt228.1 bt228.2 false)) else (demurrallaw05_StreamTwice.j0 k (a2.extract 0 ((ji11) : Int).toNat) a7 t220 t221 bt222.1 bt222.2 bt224.1 bt224.2 bt226.1 bt226.2 bt228.1 bt228.2 false)) else (demurrallaw05_StreamTwice.j0 k (a2.extract 0 ((ji11) : Int).toNat) a7 t220 t221 bt222.1 bt222.2 bt224.1 bt224.2 bt226.1 bt226.2 bt228.1 bt228.2 false)))))))) = some r := H
      have A14 := Aside0.mk A140
      clear A140
      replace H := Option.bind_eq_some_iff.mp H
      obtain ⟨⟨t222, t223⟩, A150, H⟩ := H
      replace H : ((stream_Stream.f t218 t219 200).bind fun bt224 => ((stream_Stream.f t218 t219 ((a2.extract 0 ((ji11) : Int).toNat).size : Int)).bind fun bt226 => ((stream_Block.f t218 1 t219).bind fun bt228 => ((stream_Quarter.f a3 a4 a5 a6).bind fun bt230 => ((stream_Quarter.f (Go.bits .xor .u32 a3 a7) a4 a5 a6).bind fun bt234 => (if bt230.1 = bt234.1 then (if bt230.2.1 = bt234.2.1 then (if bt230.2.2.1 = bt234.2.2.1 then (demurrallaw05_StreamTwice.j0 k (a2.extract 0 ((ji11) : Int).toNat) a7 t220 t221 t222 t223 bt224.1 bt224.2 bt226.1 bt226.2 bt228.1 bt228.2 (bt230.2.2.2 == bt234.2.2.2)) else (demurrallaw05_StreamTwice.j0 k (a2.extract 0 ((ji11) : Int).toNat) a7 t220 t221 t222 t223 bt224.1 bt224.2 bt226.1 bt226.2 bt228.1 bt228.2 false)) else (demurrallaw05_StreamTwice.j0 k (a2.extract 0 ((ji11) : Int).toNat) a7 t220 t221 t222 t223 bt224.1 bt224.2 bt226.1 bt226.2 bt228.1 bt228.2 false)) else (demurrallaw05_StreamTwice.j0 k (a2.extract 0 ((ji11) : Int).toNat) a7 t220 t221 t222 t223 bt224.1 bt224.2 bt226.1 bt226.2 bt228.1 bt228.2 false))))))) = some r := H
      have A15 := Aside0.mk A150
      clear A150
      replace H := Option.bind_eq_some_iff.mp H
      obtain ⟨⟨t224, t225⟩, A160, H⟩ := H
      replace H : ((stream_Stream.f t218 t219 ((a2.extract 0 ((ji11) : Int).toNat).size : Int)).bind fun bt226 => ((stream_Block.f t218 1 t219).bind fun bt228 => ((stream_Quarter.f a3 a4 a5 a6).bind fun bt230 => ((stream_Quarter.f (Go.bits .xor .u32 a3 a7) a4 a5 a6).bind fun bt234 => (if bt230.1 = bt234.1 then (if bt230.2.1 = bt234.2.1 then (if bt230.2.2.1 = bt234.2.2.1 then (demurrallaw05_StreamTwice.j0 k (a2.extract 0 ((ji11) : Int).toNat) a7 t220 t221 t222 t223 t224 t225 bt226.1 bt226.2 bt228.1 bt228.2 (bt230.2.2.2 == bt234.2.2.2)) else (demurrallaw05_StreamTwice.j0 k (a2.extract 0 ((ji11) : Int).toNat) a7 t220 t221 t222 t223 t224 t225 bt226.1 bt226.2 bt228.1 bt228.2 false)) else (demurrallaw05_StreamTwice.j0 k (a2.extract 0 ((ji11) : Int).toNat) a7 t220 t221 t222 t223 t224 t225 bt226.1 bt226.2 bt228.1 bt228.2 false)) else (demurrallaw05_StreamTwice.j0 k (a2.extract 0 ((ji11) : Int).toNat) a7 t220 t221 t222 t223 t224 t225 bt226.1 bt226.2 bt228.1 bt228.2 false)))))) = some r := H
      have A16 := Aside0.mk A160
      clear A160
      replace H := Option.bind_eq_some_iff.mp H
      obtain ⟨⟨t226, t227⟩, A170, H⟩ := H
      replace H : ((stream_Block.f t218 1 t219).bind fun bt228 => ((stream_Quarter.f a3 a4 a5 a6).bind fun bt230 => ((stream_Quarter.f (Go.bits .xor .u32 a3 a7) a4 a5 a6).bind fun bt234 => (if bt230.1 = bt234.1 then (if bt230.2.1 = bt234.2.1 then (if bt230.2.2.1 = bt234.2.2.1 then (demurrallaw05_StreamTwice.j0 k (a2.extract 0 ((ji11) : Int).toNat) a7 t220 t221 t222 t223 t224 t225 t226 t227 bt228.1 bt228.2 (bt230.2.2.2 == bt234.2.2.2)) else (demurrallaw05_StreamTwice.j0 k (a2.extract 0 ((ji11) : Int).toNat) a7 t220 t221 t222 t223 t224 t225 t226 t227 bt228.1 bt228.2 false)) else (demurrallaw05_StreamTwice.j0 k (a2.extract 0 ((ji11) : Int).toNat) a7 t220 t221 t222 t223 t224 t225 t226 t227 bt228.1 bt228.2 false)) else (demurrallaw05_StreamTwice.j0 k (a2.extract 0 ((ji11) : Int).toNat) a7 t220 t221 t222 t223 t224 t225 t226 t227 bt228.1 bt228.2 false))))) = some r := H
      have A17 := Aside0.mk A170
      clear A170
      replace H := Option.bind_eq_some_iff.mp H
      obtain ⟨⟨t228, t229⟩, A180, H⟩ := H
      replace H : ((stream_Quarter.f a3 a4 a5 a6).bind fun bt230 => ((stream_Quarter.f (Go.bits .xor .u32 a3 a7) a4 a5 a6).bind fun bt234 => (if bt230.1 = bt234.1 then (if bt230.2.1 = bt234.2.1 then (if bt230.2.2.1 = bt234.2.2.1 then (demurrallaw05_StreamTwice.j0 k (a2.extract 0 ((ji11) : Int).toNat) a7 t220 t221 t222 t223 t224 t225 t226 t227 t228 t229 (bt230.2.2.2 == bt234.2.2.2)) else (demurrallaw05_StreamTwice.j0 k (a2.extract 0 ((ji11) : Int).toNat) a7 t220 t221 t222 t223 t224 t225 t226 t227 t228 t229 false)) else (demurrallaw05_StreamTwice.j0 k (a2.extract 0 ((ji11) : Int).toNat) a7 t220 t221 t222 t223 t224 t225 t226 t227 t228 t229 false)) else (demurrallaw05_StreamTwice.j0 k (a2.extract 0 ((ji11) : Int).toNat) a7 t220 t221 t222 t223 t224 t225 t226 t227 t228 t229 false)))) = some r := H
      have A18 := Aside0.mk A180
      clear A180
      replace H := Option.bind_eq_some_iff.mp H
      obtain ⟨⟨t230, t231, t232, t233⟩, A190, H⟩ := H
      replace H : ((stream_Quarter.f (Go.bits .xor .u32 a3 a7) a4 a5 a6).bind fun bt234 => (if t230 = bt234.1 then (if t231 = bt234.2.1 then (if t232 = bt234.2.2.1 then (demurrallaw05_StreamTwice.j0 k (a2.extract 0 ((ji11) : Int).toNat) a7 t220 t221 t222 t223 t224 t225 t226 t227 t228 t229 (t233 == bt234.2.2.2)) else (demurrallaw05_StreamTwice.j0 k (a2.extract 0 ((ji11) : Int).toNat) a7 t220 t221 t222 t223 t224 t225 t226 t227 t228 t229 false)) else (demurrallaw05_StreamTwice.j0 k (a2.extract 0 ((ji11) : Int).toNat) a7 t220 t221 t222 t223 t224 t225 t226 t227 t228 t229 false)) else (demurrallaw05_StreamTwice.j0 k (a2.extract 0 ((ji11) : Int).toNat) a7 t220 t221 t222 t223 t224 t225 t226 t227 t228 t229 false))) = some r := H
      have A19 := Aside0.mk A190
      clear A190
      replace H := Option.bind_eq_some_iff.mp H
      obtain ⟨⟨t234, t235, t236, t237⟩, A200, H⟩ := H
      replace H : (if t230 = t234 then (if t231 = t235 then (if t232 = t236 then (demurrallaw05_StreamTwice.j0 k (a2.extract 0 ((ji11) : Int).toNat) a7 t220 t221 t222 t223 t224 t225 t226 t227 t228 t229 (t233 == t237)) else (demurrallaw05_StreamTwice.j0 k (a2.extract 0 ((ji11) : Int).toNat) a7 t220 t221 t222 t223 t224 t225 t226 t227 t228 t229 false)) else (demurrallaw05_StreamTwice.j0 k (a2.extract 0 ((ji11) : Int).toNat) a7 t220 t221 t222 t223 t224 t225 t226 t227 t228 t229 false)) else (demurrallaw05_StreamTwice.j0 k (a2.extract 0 ((ji11) : Int).toNat) a7 t220 t221 t222 t223 t224 t225 t226 t227 t228 t229 false)) = some r := H
      have A20 := Aside0.mk A200
      clear A200
      have HC21 := Aside0.mk H
      clear H
      go_enter Try.func5, Try.ntmps5
      try go_wp2
      have n0_ := Aside0.mk (below_drew1 HB.out)
      clear HB
      have HB := n0_
      clear n0_
      refine start_ (n := 12) (S := fun w' => True) (ds := []) #[false, false, false, false, false, false, false, false, false, false, false, false] (by kernel_rfl) rfl rfl trivial (fun hHeld => ?_); refine with_tabW demurrallaw05_StreamTwice.tab1 demurrallaw05_StreamTwice.bits1 (fun HT_ HW_ => ?_)
      generalize w.drew = w22 at HB hHeld ⊢
      refine pure_ (i := 0) (N := some 36) (v := ?_) (a' := ?_) #[true, false, false, false, false, false, false, false, false, false, false, false] rfl rfl (any_of HT_.out (by kernel_rfl)) (fun _ _ _ h => h) (Or.inl ⟨by rfl, ?_⟩) ?_ ?_
      rotate_left
      · intro w'
        go_simp
        with_reducible rfl
      rotate_left
      · simp only [Act.put, List.setIfInBounds_toArray, List.set_cons_zero, List.set_cons_succ, i64_w, i32_w]
        rfl
      refine pure_ (i := 2) (N := some 38) (v := ?_) (a' := ?_) #[true, false, true, false, false, false, false, false, false, false, false, false] rfl rfl (any_of HT_.out (by kernel_rfl)) (fun _ _ _ h => h) (Or.inl ⟨by rfl, ?_⟩) ?_ ?_
      rotate_left
      · intro w'
        go_simp
        with_reducible rfl
      rotate_left
      · simp only [Act.put, List.setIfInBounds_toArray, List.set_cons_zero, List.set_cons_succ, i64_w, i32_w]
        rfl
      refine pure_ (i := 4) (N := some 40) (v := ?_) (a' := ?_) #[true, false, true, false, true, false, false, false, false, false, false, false] rfl rfl (any_of HT_.out (by kernel_rfl)) (fun _ _ _ h => h) (Or.inl ⟨by rfl, ?_⟩) ?_ ?_
      rotate_left
      · intro w'
        go_simp
        with_reducible rfl
      rotate_left
      · simp only [Act.put, List.setIfInBounds_toArray, List.set_cons_zero, List.set_cons_succ, i64_w, i32_w]
        rfl
      refine pure_ (i := 5) (N := some 41) (v := ?_) (a' := ?_) #[true, false, true, false, true, true, false, false, false, false, false, false] rfl rfl (any_of HT_.out (by kernel_rfl)) (fun _ _ _ h => h) (Or.inl ⟨by rfl, ?_⟩) ?_ ?_
      rotate_left
      · intro w'
        go_simp
        with_reducible rfl
      rotate_left
      · simp only [Act.put, List.setIfInBounds_toArray, List.set_cons_zero, List.set_cons_succ, i64_w, i32_w]
        rfl
      refine pure_ (i := 6) (N := some 42) (v := ?_) (a' := ?_) #[true, false, true, false, true, true, true, false, false, false, false, false] rfl rfl (any_of HT_.out (by kernel_rfl)) (fun _ _ _ h => h) (Or.inl ⟨by rfl, ?_⟩) ?_ ?_
      rotate_left
      · intro w'
        go_simp
        with_reducible rfl
      rotate_left
      · simp only [Act.put, List.setIfInBounds_toArray, List.set_cons_zero, List.set_cons_succ, i64_w, i32_w]
        rfl
      refine pure_ (i := 7) (N := some 43) (v := ?_) (a' := ?_) #[true, false, true, false, true, true, true, true, false, false, false, false] rfl rfl (any_of HT_.out (by kernel_rfl)) (fun _ _ _ h => h) (Or.inl ⟨by rfl, ?_⟩) ?_ ?_
      rotate_left
      · intro w'
        go_simp
        with_reducible rfl
      rotate_left
      · simp only [Act.put, List.setIfInBounds_toArray, List.set_cons_zero, List.set_cons_succ, i64_w, i32_w]
        rfl
      refine pure_ (i := 8) (N := some 44) (v := ?_) (a' := ?_) #[true, false, true, false, true, true, true, true, true, false, false, false] rfl rfl (any_of HT_.out (by kernel_rfl)) (fun _ _ _ h => h) (Or.inl ⟨by rfl, ?_⟩) ?_ ?_
      rotate_left
      · intro w'
        go_simp
        with_reducible rfl
      rotate_left
      · simp only [Act.put, List.setIfInBounds_toArray, List.set_cons_zero, List.set_cons_succ, i64_w, i32_w]
        rfl
      refine one_ (i := 1) (N := some 37) #[true, true, true, false, true, true, true, true, true, false, false, false] rfl rfl (one_of HT_.out (by kernel_rfl)) (by decide) (fun K hK => ?_)
      refine goes_ Try.func6 (by kernel_rfl) rfl #[.string a0] (by rfl) rfl rfl (by (try simp only [List.map_toArray, List.map_cons, List.map_nil]); first | done | rfl | (simp only [List.length_drop, List.length_take]; rfl) | (simp [Act.eval]; omega)) ?_
      with_reducible refine (demurrallaw05_cut.calls a0 t218 _ A9.out).mono ?_
      rintro e w23 ⟨rfl, hb⟩
      refine ⟨_, rfl, ?_⟩
      have n0_ := Aside0.mk (below_step (by repeat (first | (with_reducible first | exact HB.out | apply below_alloc | apply pw_below_drewN | apply below_drew1) | exact HB.out)) hb)
      clear HB
      have HB := n0_
      clear n0_
      (try clear hb)
      (try clear hb2)
      (try clear hk)
      (try clear hi)
      refine hK.out _ _ trivial (fun hHeld => ?_)
      clear hK K
      refine norm_ (a' := ?_) ?_ ?_
      rotate_left
      · show Act.put _ (some 37) _ = _
        simp only [Act.put, List.setIfInBounds_toArray, List.set_cons_zero, List.set_cons_succ, i64_w, i32_w]
        rfl
      refine one_ (i := 3) (N := some 39) #[true, true, true, true, true, true, true, true, true, false, false, false] rfl rfl (one_of HT_.out (by kernel_rfl)) (by decide) (fun K hK => ?_)
      refine goes_ Try.func6 (by kernel_rfl) rfl #[.string a1] (by rfl) rfl rfl (by (try simp only [List.map_toArray, List.map_cons, List.map_nil]); first | done | rfl | (simp only [List.length_drop, List.length_take]; rfl) | (simp [Act.eval]; omega)) ?_
      with_reducible refine (demurrallaw05_cut.calls a1 t219 _ A10.out).mono ?_
      rintro e w24 ⟨rfl, hb⟩
      refine ⟨_, rfl, ?_⟩
      have n0_ := Aside0.mk (below_step (by repeat (first | (with_reducible first | exact HB.out | apply below_alloc | apply pw_below_drewN | apply below_drew1) | exact HB.out)) hb)
      clear HB
      have HB := n0_
      clear n0_
      (try clear hb)
      (try clear hb2)
      (try clear hk)
      (try clear hi)
      refine hK.out _ _ trivial (fun hHeld => ?_)
      clear hK K
      refine norm_ (a' := ?_) ?_ ?_
      rotate_left
      · show Act.put _ (some 39) _ = _
        simp only [Act.put, List.setIfInBounds_toArray, List.set_cons_zero, List.set_cons_succ, i64_w, i32_w]
        rfl
      refine pure_ (i := 9) (N := some 0) (v := ?_) (a' := ?_) #[true, true, true, true, true, true, true, true, true, true, false, false] rfl rfl (any_of HT_.out (by kernel_rfl)) (fun _ _ _ h => h) (Or.inl ⟨by rfl, ?_⟩) ?_ ?_
      rotate_left
      · intro w'
        go_simp
        with_reducible rfl
      rotate_left
      · simp only [Act.put, List.setIfInBounds_toArray, List.set_cons_zero, List.set_cons_succ, i64_w, i32_w]
        rfl
      refine pure_ (i := 10) (N := some 1) (v := ?_) (a' := ?_) #[true, true, true, true, true, true, true, true, true, true, true, false] rfl rfl (any_of HT_.out (by kernel_rfl)) (fun _ _ _ h => h) (Or.inl ⟨by rfl, ?_⟩) ?_ ?_
      rotate_left
      · intro w'
        go_simp
        with_reducible rfl
      rotate_left
      · simp only [Act.put, List.setIfInBounds_toArray, List.set_cons_zero, List.set_cons_succ, i64_w, i32_w]
        rfl
      refine pure_ (i := 11) (N := some 2) (v := ?_) (a' := ?_) #[true, true, true, true, true, true, true, true, true, true, true, true] rfl rfl (any_of HT_.out (by kernel_rfl)) (fun _ _ _ h => h) (Or.inl ⟨by rfl, ?_⟩) ?_ ?_
      rotate_left
      · intro w'
        go_simp
        with_reducible rfl
      rotate_left
      · simp only [Act.put, List.setIfInBounds_toArray, List.set_cons_zero, List.set_cons_succ, i64_w, i32_w]
        rfl
      refine done_ (done_of HT_.out (by kernel_rfl)) ?_
      go_upto_region 9 with (first | ((with_reducible refine gate_callee (f := 14) rfl ?_); refine goesL_ (some 49) rfl rfl Try.func14 (by kernel_rfl) rfl #[.string t218, .string t219, .string (a2.extract 0 ((ji11) : Int).toNat)] rfl (by (try simp only [List.map_toArray, List.map_cons, List.map_nil]); first | done | (simp only [hji11]; rfl) | rfl | (simp only [List.length_drop, List.length_take]; rfl) | (simp [Act.eval]; omega)) ?_; (with_reducible refine (stream_Xor.calls t218 t219 (a2.extract 0 ((ji11) : Int).toNat) t220 t221 _ A14.out).mono ?_); rintro e w25 ⟨rfl, hb⟩; refine ⟨_, rfl, ?_⟩; have n0_ := Aside0.mk (below_step (by repeat (first | (with_reducible first | exact HB.out | apply below_alloc | apply pw_below_drewN | apply below_drew1) | exact HB.out)) hb); clear HB; have HB := n0_; clear n0_; (try clear hb); (try clear hb2); (try clear hk); (try clear hi)) | ((with_reducible refine gate_callee (f := 14) rfl ?_); refine goesL_ (some 56) rfl rfl Try.func14 (by kernel_rfl) rfl #[.string t218, .string t219, .string t220] rfl (by (try simp only [List.map_toArray, List.map_cons, List.map_nil]); first | done | rfl | (simp only [List.length_drop, List.length_take]; rfl) | (simp [Act.eval]; omega)) ?_; (with_reducible refine (stream_Xor.calls t218 t219 t220 t222 t223 _ A15.out).mono ?_); rintro e w26 ⟨rfl, hb⟩; refine ⟨_, rfl, ?_⟩; have n0_ := Aside0.mk (below_step (by repeat (first | (with_reducible first | exact HB.out | apply below_alloc | apply pw_below_drewN | apply below_drew1) | exact HB.out)) hb); clear HB; have HB := n0_; clear n0_; (try clear hb); (try clear hb2); (try clear hk); (try clear hi)) | ((with_reducible refine gate_callee (f := 13) rfl ?_); refine goesL_ (some 62) rfl rfl Try.func13 (by kernel_rfl) rfl #[.string t218, .string t219, .int .i64 200] rfl (by (try simp only [List.map_toArray, List.map_cons, List.map_nil]); first | done | rfl | (simp only [List.length_drop, List.length_take]; rfl) | (simp [Act.eval]; omega)) ?_; (with_reducible refine (stream_Stream.calls t218 t219 200 t224 t225 _ A16.out).mono ?_); rintro e w27 ⟨rfl, hb⟩; refine ⟨_, rfl, ?_⟩; have n0_ := Aside0.mk (below_step (by repeat (first | (with_reducible first | exact HB.out | apply below_alloc | apply pw_below_drewN | apply below_drew1) | exact HB.out)) hb); clear HB; have HB := n0_; clear n0_; (try clear hb); (try clear hb2); (try clear hk); (try clear hi)) | ((with_reducible refine gate_callee (f := 13) rfl ?_); refine goesL_ (some 70) rfl rfl Try.func13 (by kernel_rfl) rfl #[.string t218, .string t219, .int .i64 ((a2.extract 0 ((ji11) : Int).toNat).size : Int)] rfl (by (try simp only [List.map_toArray, List.map_cons, List.map_nil]); first | done | (simp only [hji11]; rfl) | rfl | (simp only [List.length_drop, List.length_take]; rfl) | (simp [Act.eval]; omega)) ?_; (with_reducible refine (stream_Stream.calls t218 t219 ((a2.extract 0 ((ji11) : Int).toNat).size : Int) t226 t227 _ A17.out).mono ?_); rintro e w28 ⟨rfl, hb⟩; refine ⟨_, rfl, ?_⟩; have n0_ := Aside0.mk (below_step (by repeat (first | (with_reducible first | exact HB.out | apply below_alloc | apply pw_below_drewN | apply below_drew1) | exact HB.out)) hb); clear HB; have HB := n0_; clear n0_; (try clear hb); (try clear hb2); (try clear hk); (try clear hi)) | ((with_reducible refine gate_callee (f := 8) rfl ?_); refine goesL_ (some 76) rfl rfl Try.func8 (by kernel_rfl) rfl #[.string t218, .int .u32 1, .string t219] rfl (by (try simp only [List.map_toArray, List.map_cons, List.map_nil]); first | done | rfl | (simp only [List.length_drop, List.length_take]; rfl) | (simp [Act.eval]; omega)) ?_; (with_reducible refine (stream_Block.calls t218 1 t219 t228 t229 _ A18.out).mono ?_); rintro e w29 ⟨rfl, hb⟩; refine ⟨_, rfl, ?_⟩; have n0_ := Aside0.mk (below_step (by repeat (first | (with_reducible first | exact HB.out | apply below_alloc | apply pw_below_drewN | apply below_drew1) | exact HB.out)) hb); clear HB; have HB := n0_; clear n0_; (try clear hb); (try clear hb2); (try clear hk); (try clear hi)) | ((with_reducible refine gate_callee (f := 7) rfl ?_); refine goesL_ (some 84) rfl rfl Try.func7 (by kernel_rfl) rfl #[.int .u32 a3, .int .u32 a4, .int .u32 a5, .int .u32 a6] rfl (by (try simp only [List.map_toArray, List.map_cons, List.map_nil]); first | done | rfl | (simp only [List.length_drop, List.length_take]; rfl) | (simp [Act.eval]; omega)) ?_; (with_reducible refine (stream_Quarter.calls a3 a4 a5 a6 t230 t231 t232 t233 _ A19.out).mono ?_); rintro e w30 ⟨rfl, hb⟩; refine ⟨_, rfl, ?_⟩; have n0_ := Aside0.mk (below_step (by repeat (first | (with_reducible first | exact HB.out | apply below_alloc | apply pw_below_drewN | apply below_drew1) | exact HB.out)) hb); clear HB; have HB := n0_; clear n0_; (try clear hb); (try clear hb2); (try clear hk); (try clear hi)) | ((with_reducible refine gate_callee (f := 7) rfl ?_); refine goesL_ (some 96) rfl rfl Try.func7 (by kernel_rfl) rfl #[.int .u32 (Go.bits .xor .u32 a3 a7), .int .u32 a4, .int .u32 a5, .int .u32 a6] rfl (by (try simp only [List.map_toArray, List.map_cons, List.map_nil]); first | done | rfl | (simp only [List.length_drop, List.length_take]; rfl) | (simp [Act.eval]; omega)) ?_; (with_reducible refine (stream_Quarter.calls (Go.bits .xor .u32 a3 a7) a4 a5 a6 t234 t235 t236 t237 _ A20.out).mono ?_); rintro e w31 ⟨rfl, hb⟩; refine ⟨_, rfl, ?_⟩; have n0_ := Aside0.mk (below_step (by repeat (first | (with_reducible first | exact HB.out | apply below_alloc | apply pw_below_drewN | apply below_drew1) | exact HB.out)) hb); clear HB; have HB := n0_; clear n0_; (try clear hb); (try clear hb2); (try clear hk); (try clear hi)))
      (try simp only [Act.put, List.setIfInBounds_toArray, List.set_cons_zero, List.set_cons_succ])
      go_cut [35] (fun v35 wc => ∃ (kq : Nat) (x35_20 : Bool), v35 = .bool x35_20 ∧ Aside0 (demurrallaw05_StreamTwice.j0 kq (a2.extract 0 ((ji11) : Int).toNat) a7 t220 t221 t222 t223 t224 t225 t226 t227 t228 t229 x35_20 = some r) ∧ Aside0 (kq ≤ k) ∧ Aside0 (Below w.heap.size w wc))
      case first =>
        have H := HC21.out
        clear HC21
        by_cases c32 : t230 = t234
        · rw [if_pos c32] at H
          have c32b0 : (t230 == t234) = true := beq_iff_eq.mpr c32
          have c32b1 : (t230 != t234) = false := bne_eq_false_iff_eq.mpr c32
          clear c32
          (first | rw [c32b0] | (simp only [i64_w, i32_w]; rw [c32b0]) | skip)
          by_cases c33 : t231 = t235
          · rw [if_pos c33] at H
            have c33b0 : (t231 == t235) = true := beq_iff_eq.mpr c33
            have c33b1 : (t231 != t235) = false := bne_eq_false_iff_eq.mpr c33
            clear c33
            by_cases c34 : t232 = t236
            · rw [if_pos c34] at H
              have c34b0 : (t232 == t236) = true := beq_iff_eq.mpr c34
              have c34b1 : (t232 != t236) = false := bne_eq_false_iff_eq.mpr c34
              clear c34
              have H' := Aside0.mk H
              clear H
              go_wp2
              go_meet
              case rel => exact ⟨_, ((t233 == t237)), (by first | rfl | (simp; done) | (simp [*]; done)), H', ⟨by first | omega | exact Nat.le_refl _⟩, ⟨by repeat (first | (with_reducible first | exact HB.out | apply below_alloc | apply pw_below_drewN | apply below_drew1) | exact HB.out)⟩⟩
            · rw [if_neg c34] at H
              have c34b0 : (t232 == t236) = false := beq_eq_false_iff_ne.mpr c34
              have c34b1 : (t232 != t236) = true := bne_iff_ne.mpr c34
              have H' := Aside0.mk H
              clear H
              go_wp2
              go_meet
              case rel => exact ⟨_, (false), (by first | rfl | (simp; done) | (simp [*]; done)), H', ⟨by first | omega | exact Nat.le_refl _⟩, ⟨by repeat (first | (with_reducible first | exact HB.out | apply below_alloc | apply pw_below_drewN | apply below_drew1) | exact HB.out)⟩⟩
          · rw [if_neg c33] at H
            have c33b0 : (t231 == t235) = false := beq_eq_false_iff_ne.mpr c33
            have c33b1 : (t231 != t235) = true := bne_iff_ne.mpr c33
            have H' := Aside0.mk H
            clear H
            go_wp2
            go_meet
            case rel => exact ⟨_, (false), (by first | rfl | (simp; done) | (simp [*]; done)), H', ⟨by first | omega | exact Nat.le_refl _⟩, ⟨by repeat (first | (with_reducible first | exact HB.out | apply below_alloc | apply pw_below_drewN | apply below_drew1) | exact HB.out)⟩⟩
        · rw [if_neg c32] at H
          have c32b0 : (t230 == t234) = false := beq_eq_false_iff_ne.mpr c32
          have c32b1 : (t230 != t234) = true := bne_iff_ne.mpr c32
          (first | rw [c32b0] | (simp only [i64_w, i32_w]; rw [c32b0]) | skip)
          have H' := Aside0.mk H
          clear H
          go_wp2
          go_meet
          case rel => exact ⟨_, (false), (by first | rfl | (simp; done) | (simp [*]; done)), H', ⟨by first | omega | exact Nat.le_refl _⟩, ⟨by repeat (first | (with_reducible first | exact HB.out | apply below_alloc | apply pw_below_drewN | apply below_drew1) | exact HB.out)⟩⟩
      case rest =>
        clear HC21
        try clear c1
        try clear p2
        try clear c3
        try clear c5
        try clear c6
        try clear c7
        try clear c8
        try clear c12
        try clear c12b0
        try clear c12b1
        try clear c13
        try clear c13b0
        try clear c13b1
        try clear c14
        try clear c32
        try clear c32b0
        try clear c32b1
        try clear c33
        try clear c33b0
        try clear c33b1
        try clear c34
        try clear c34b0
        try clear c34b1
        obtain ⟨kq, x35_20, rfl, HA, HJ20, HB⟩ := hcut
        cases kq with
        | zero => exact absurd HA.out (by simp [demurrallaw05_StreamTwice.j0])
        | succ kj20 =>
          have H := HA.out
          clear HA
          simp only [demurrallaw05_StreamTwice.j0] at H
          have HC35 := Aside0.mk H
          clear H
          go_upto_region 10 with (fail)
          go_cut [126] (fun v126 wc => ∃ (kq : Nat) (x126_34 : Bool), v126 = .bool x126_34 ∧ Aside0 (demurrallaw05_StreamTwice.j1 kq (a2.extract 0 ((ji11) : Int).toNat) t220 t221 t222 t223 t224 t225 t226 t227 t228 t229 x126_34 = some r) ∧ Aside0 (kq ≤ kj20) ∧ Aside0 (Below w.heap.size w wc))
          case first =>
            have H := HC35.out
            clear HC35
            by_cases c36 : (x35_20 != (a7 == 0)) = true
            · rw [if_pos c36] at H
              have c36b0 : (x35_20 != (a7 == 0)) = true := c36
              (try (have c36b1 : decide (x35_20 = (a7 == 0)) = false := by simpa using c36))
              (try (have c36b2 : (x35_20 == (a7 == 0)) = false := by simpa using c36))
              (try (have c36b3 : ¬ (x35_20 = (a7 == 0)) := by simpa using c36))
              clear c36
              (first | rw [c36b0] | (simp only [i64_w, i32_w]; rw [c36b0]) | skip)
              have H' := Aside0.mk H
              clear H
              go_wp2
              go_meet
              case rel => exact ⟨_, (true), (by first | rfl | (simp; done) | (simp [*]; done)), H', ⟨by have := HJ20.out; first | omega | exact Nat.le_refl _⟩, ⟨by repeat (first | (with_reducible first | exact HB.out | apply below_alloc | apply pw_below_drewN | apply below_drew1) | exact HB.out)⟩⟩
            · rw [if_neg c36] at H
              have c36b0 : (x35_20 != (a7 == 0)) = false := by simpa using c36
              (try (have c36b1 : decide (x35_20 = (a7 == 0)) = true := by simpa using c36))
              (try (have c36b2 : (x35_20 == (a7 == 0)) = true := by simpa using c36))
              clear c36
              (first | rw [c36b0] | (simp only [i64_w, i32_w]; rw [c36b0]) | skip)
              replace H := Option.bind_eq_some_iff.mp H
              obtain ⟨t238, A370, H⟩ := H
              replace H : (demurrallaw05_StreamTwice.j1 kj20 (a2.extract 0 ((ji11) : Int).toNat) t220 t221 t222 t223 t224 t225 t226 t227 t228 t229 (!t238)) = some r := H
              have A37 := Aside0.mk A370
              clear A370
              have H' := Aside0.mk H
              clear H
              go_wp2_with (first | (go_at_call 10; (with_reducible refine (demurrallaw05_alive.calls  t238 _ A37.out).mono ?_); rintro e w38 ⟨rfl, hb⟩; have n0_ := Aside0.mk (below_step (by repeat (first | (with_reducible first | exact HB.out | apply below_alloc | apply pw_below_drewN | apply below_drew1) | exact HB.out)) hb); clear HB; have HB := n0_; clear n0_; (try clear hb); (try clear hb2); (try clear hk); (try clear hi)))
              go_meet
              case rel => exact ⟨_, (!t238), (by first | rfl | (simp; done) | (simp [*]; done)), H', ⟨by have := HJ20.out; first | omega | exact Nat.le_refl _⟩, ⟨by repeat (first | (with_reducible first | exact HB.out | apply below_alloc | apply pw_below_drewN | apply below_drew1) | exact HB.out)⟩⟩
          case rest =>
            clear HC35
            try clear c1
            try clear p2
            try clear c3
            try clear c5
            try clear c6
            try clear c7
            try clear c8
            try clear c12
            try clear c12b0
            try clear c12b1
            try clear c13
            try clear c13b0
            try clear c13b1
            try clear c14
            try clear c32
            try clear c32b0
            try clear c32b1
            try clear c33
            try clear c33b0
            try clear c33b1
            try clear c34
            try clear c34b0
            try clear c34b1
            try clear c36
            try clear c36b0
            try clear c36b1
            try clear c36b2
            try clear p2
            obtain ⟨kq, x126_34, rfl, HA, HJ34, HB⟩ := hcut
            cases kq with
            | zero => exact absurd HA.out (by simp [demurrallaw05_StreamTwice.j1])
            | succ kj34 =>
              have H := HA.out
              clear HA
              simp only [demurrallaw05_StreamTwice.j1] at H
              generalize hcutx : a2.extract 0 ((ji11) : Int).toNat = cutx at H ⊢
              by_cases c39 : x126_34 = true
              · subst c39
                have H1 : (some false) = some r := by rw [if_pos rfl] at H; exact H
                clear H
                have H := H1
                clear H1
                obtain rfl := Option.some.inj H
                go_wp2
                go_ret
                exact ⟨by first | rfl | (simp [errW_none, errW_some] <;> rfl) | (simp only [← hji11]; first | rfl | (simp [errW_none, errW_some] <;> rfl)) | (simp [*, errW_none, errW_some] <;> rfl), by repeat (first | (with_reducible first | exact HB.out | apply below_alloc | apply pw_below_drewN | apply below_drew1) | exact HB.out)⟩
              · replace c39 := Bool.eq_false_iff.mpr c39
                subst c39
                have H1 : (if t221 = 0 then (if t223 = 0 then (if t225 = 0 then (if t227 = 0 then (if t229 = 0 then (if t222.toList = cutx.toList then (if (t220.size : Int) = (cutx.size : Int) then (if (t224.size : Int) = 200 then (if 0 ≤ (cutx.size : Int) then (if (cutx.size : Int) ≤ (t224.size : Int) then (if (t224.extract 0 ((cutx.size : Int) : Int).toNat).toList = t226.toList then (if 0 ≤ 64 then (if 64 ≤ (t224.size : Int) then (some ((t224.extract 0 64).toList == t228.toList)) else (none)) else (none)) else (some false)) else (none)) else (none)) else (some false)) else (some false)) else (some false)) else (some false)) else (some false)) else (some false)) else (some false)) else (if t223 = 0 then (some false) else (if t225 = 0 then (some false) else (some (t220.toList == ([] : List UInt8)))))) = some r := by rw [if_neg (show ¬ (false = true) by decide)] at H; exact H
                clear H
                have H := H1
                clear H1
                by_cases c40 : t221 = 0
                · rw [if_pos c40] at H
                  have c40b0 : (t221 == 0) = true := beq_iff_eq.mpr c40
                  have c40b1 : (t221 != 0) = false := bne_eq_false_iff_eq.mpr c40
                  clear c40
                  by_cases c41 : t223 = 0
                  · rw [if_pos c41] at H
                    have c41b0 : (t223 == 0) = true := beq_iff_eq.mpr c41
                    have c41b1 : (t223 != 0) = false := bne_eq_false_iff_eq.mpr c41
                    clear c41
                    by_cases c42 : t225 = 0
                    · rw [if_pos c42] at H
                      have c42b0 : (t225 == 0) = true := beq_iff_eq.mpr c42
                      have c42b1 : (t225 != 0) = false := bne_eq_false_iff_eq.mpr c42
                      clear c42
                      by_cases c43 : t227 = 0
                      · rw [if_pos c43] at H
                        have c43b0 : (t227 == 0) = true := beq_iff_eq.mpr c43
                        have c43b1 : (t227 != 0) = false := bne_eq_false_iff_eq.mpr c43
                        clear c43
                        by_cases c44 : t229 = 0
                        · rw [if_pos c44] at H
                          have c44b0 : (t229 == 0) = true := beq_iff_eq.mpr c44
                          have c44b1 : (t229 != 0) = false := bne_eq_false_iff_eq.mpr c44
                          clear c44
                          by_cases c45 : t222.toList = cutx.toList
                          · rw [if_pos c45] at H
                            have c45b0 : (t222.toList == cutx.toList) = true := beq_iff_eq.mpr c45
                            have c45b1 : (t222.toList != cutx.toList) = false := bne_eq_false_iff_eq.mpr c45
                            clear c45
                            by_cases c46 : (t220.size : Int) = (cutx.size : Int)
                            · rw [if_pos c46] at H
                              have c46b0 : ((t220.size : Int) == (cutx.size : Int)) = true := beq_iff_eq.mpr c46
                              have c46b1 : ((t220.size : Int) != (cutx.size : Int)) = false := bne_eq_false_iff_eq.mpr c46
                              have c46b2 : (t220.size == cutx.size) = true := by first | simpa using c46 | (simp at c46 ⊢; omega)
                              clear c46
                              by_cases c47 : (t224.size : Int) = 200
                              · rw [if_pos c47] at H
                                have c47b0 : ((t224.size : Int) == 200) = true := beq_iff_eq.mpr c47
                                have c47b1 : ((t224.size : Int) != 200) = false := bne_eq_false_iff_eq.mpr c47
                                clear c47
                                by_cases c48 : 0 ≤ (cutx.size : Int)
                                · rw [if_pos c48] at H
                                  have c48b0 := eq_true c48
                                  have c48b1 : decide (0 ≤ (cutx.size : Int)) = true := decide_eq_true c48
                                  clear c48
                                  by_cases c49 : (cutx.size : Int) ≤ (t224.size : Int)
                                  · rw [if_pos c49] at H
                                    have c49b0 := eq_true c49
                                    have c49b1 : decide ((cutx.size : Int) ≤ (t224.size : Int)) = true := decide_eq_true c49
                                    clear c49
                                    by_cases c50 : (t224.extract 0 ((cutx.size : Int) : Int).toNat).toList = t226.toList
                                    · rw [if_pos c50] at H
                                      have c50b0 : ((t224.extract 0 ((cutx.size : Int) : Int).toNat).toList == t226.toList) = true := beq_iff_eq.mpr c50
                                      have c50b1 : ((t224.extract 0 ((cutx.size : Int) : Int).toNat).toList != t226.toList) = false := bne_eq_false_iff_eq.mpr c50
                                      rw [Int.toNat_natCast] at c50b0 c50b1
                                      clear c50
                                      by_cases c51 : 0 ≤ 64
                                      · rw [if_pos c51] at H
                                        have c51b0 := eq_true c51
                                        have c51b1 : decide (0 ≤ 64) = true := decide_eq_true c51
                                        clear c51
                                        by_cases c52 : 64 ≤ (t224.size : Int)
                                        · rw [if_pos c52] at H
                                          have c52b0 := eq_true c52
                                          have c52b1 : decide (64 ≤ (t224.size : Int)) = true := decide_eq_true c52
                                          clear c52
                                          obtain rfl := Option.some.inj H
                                          go_wp2
                                          go_ret
                                          exact ⟨by first | rfl | (simp [errW_none, errW_some] <;> rfl) | (simp only [← hji11]; first | rfl | (simp [errW_none, errW_some] <;> rfl)) | (simp [*, errW_none, errW_some] <;> rfl), by repeat (first | (with_reducible first | exact HB.out | apply below_alloc | apply pw_below_drewN | apply below_drew1) | exact HB.out)⟩
                                        · rw [if_neg c52] at H
                                          exact absurd H (by simp)
                                      · rw [if_neg c51] at H
                                        exact absurd H (by simp)
                                    · rw [if_neg c50] at H
                                      have c50b0 : ((t224.extract 0 ((cutx.size : Int) : Int).toNat).toList == t226.toList) = false := beq_eq_false_iff_ne.mpr c50
                                      have c50b1 : ((t224.extract 0 ((cutx.size : Int) : Int).toNat).toList != t226.toList) = true := bne_iff_ne.mpr c50
                                      rw [Int.toNat_natCast] at c50b0 c50b1
                                      obtain rfl := Option.some.inj H
                                      go_wp2
                                      go_ret
                                      exact ⟨by first | rfl | (simp [errW_none, errW_some] <;> rfl) | (simp only [← hji11]; first | rfl | (simp [errW_none, errW_some] <;> rfl)) | (simp [*, errW_none, errW_some] <;> rfl), by repeat (first | (with_reducible first | exact HB.out | apply below_alloc | apply pw_below_drewN | apply below_drew1) | exact HB.out)⟩
                                  · rw [if_neg c49] at H
                                    exact absurd H (by simp)
                                · rw [if_neg c48] at H
                                  exact absurd H (by simp)
                              · rw [if_neg c47] at H
                                have c47b0 : ((t224.size : Int) == 200) = false := beq_eq_false_iff_ne.mpr c47
                                have c47b1 : ((t224.size : Int) != 200) = true := bne_iff_ne.mpr c47
                                obtain rfl := Option.some.inj H
                                go_wp2
                                go_ret
                                exact ⟨by first | rfl | (simp [errW_none, errW_some] <;> rfl) | (simp only [← hji11]; first | rfl | (simp [errW_none, errW_some] <;> rfl)) | (simp [*, errW_none, errW_some] <;> rfl), by repeat (first | (with_reducible first | exact HB.out | apply below_alloc | apply pw_below_drewN | apply below_drew1) | exact HB.out)⟩
                            · rw [if_neg c46] at H
                              have c46b0 : ((t220.size : Int) == (cutx.size : Int)) = false := beq_eq_false_iff_ne.mpr c46
                              have c46b1 : ((t220.size : Int) != (cutx.size : Int)) = true := bne_iff_ne.mpr c46
                              have c46b2 : (t220.size == cutx.size) = false := by first | simpa using c46 | (simp at c46 ⊢; omega)
                              obtain rfl := Option.some.inj H
                              go_wp2
                              go_ret
                              exact ⟨by first | rfl | (simp [errW_none, errW_some] <;> rfl) | (simp only [← hji11]; first | rfl | (simp [errW_none, errW_some] <;> rfl)) | (simp [*, errW_none, errW_some] <;> rfl), by repeat (first | (with_reducible first | exact HB.out | apply below_alloc | apply pw_below_drewN | apply below_drew1) | exact HB.out)⟩
                          · rw [if_neg c45] at H
                            have c45b0 : (t222.toList == cutx.toList) = false := beq_eq_false_iff_ne.mpr c45
                            have c45b1 : (t222.toList != cutx.toList) = true := bne_iff_ne.mpr c45
                            obtain rfl := Option.some.inj H
                            go_wp2
                            go_ret
                            exact ⟨by first | rfl | (simp [errW_none, errW_some] <;> rfl) | (simp only [← hji11]; first | rfl | (simp [errW_none, errW_some] <;> rfl)) | (simp [*, errW_none, errW_some] <;> rfl), by repeat (first | (with_reducible first | exact HB.out | apply below_alloc | apply pw_below_drewN | apply below_drew1) | exact HB.out)⟩
                        · rw [if_neg c44] at H
                          have c44b0 : (t229 == 0) = false := beq_eq_false_iff_ne.mpr c44
                          have c44b1 : (t229 != 0) = true := bne_iff_ne.mpr c44
                          obtain rfl := Option.some.inj H
                          go_wp2
                          go_ret
                          exact ⟨by first | rfl | (simp [errW_none, errW_some] <;> rfl) | (simp only [← hji11]; first | rfl | (simp [errW_none, errW_some] <;> rfl)) | (simp [*, errW_none, errW_some] <;> rfl), by repeat (first | (with_reducible first | exact HB.out | apply below_alloc | apply pw_below_drewN | apply below_drew1) | exact HB.out)⟩
                      · rw [if_neg c43] at H
                        have c43b0 : (t227 == 0) = false := beq_eq_false_iff_ne.mpr c43
                        have c43b1 : (t227 != 0) = true := bne_iff_ne.mpr c43
                        obtain rfl := Option.some.inj H
                        go_wp2
                        go_ret
                        exact ⟨by first | rfl | (simp [errW_none, errW_some] <;> rfl) | (simp only [← hji11]; first | rfl | (simp [errW_none, errW_some] <;> rfl)) | (simp [*, errW_none, errW_some] <;> rfl), by repeat (first | (with_reducible first | exact HB.out | apply below_alloc | apply pw_below_drewN | apply below_drew1) | exact HB.out)⟩
                    · rw [if_neg c42] at H
                      have c42b0 : (t225 == 0) = false := beq_eq_false_iff_ne.mpr c42
                      have c42b1 : (t225 != 0) = true := bne_iff_ne.mpr c42
                      obtain rfl := Option.some.inj H
                      go_wp2
                      go_ret
                      exact ⟨by first | rfl | (simp [errW_none, errW_some] <;> rfl) | (simp only [← hji11]; first | rfl | (simp [errW_none, errW_some] <;> rfl)) | (simp [*, errW_none, errW_some] <;> rfl), by repeat (first | (with_reducible first | exact HB.out | apply below_alloc | apply pw_below_drewN | apply below_drew1) | exact HB.out)⟩
                  · rw [if_neg c41] at H
                    have c41b0 : (t223 == 0) = false := beq_eq_false_iff_ne.mpr c41
                    have c41b1 : (t223 != 0) = true := bne_iff_ne.mpr c41
                    obtain rfl := Option.some.inj H
                    go_wp2
                    go_ret
                    exact ⟨by first | rfl | (simp [errW_none, errW_some] <;> rfl) | (simp only [← hji11]; first | rfl | (simp [errW_none, errW_some] <;> rfl)) | (simp [*, errW_none, errW_some] <;> rfl), by repeat (first | (with_reducible first | exact HB.out | apply below_alloc | apply pw_below_drewN | apply below_drew1) | exact HB.out)⟩
                · rw [if_neg c40] at H
                  have c40b0 : (t221 == 0) = false := beq_eq_false_iff_ne.mpr c40
                  have c40b1 : (t221 != 0) = true := bne_iff_ne.mpr c40
                  by_cases c53 : t223 = 0
                  · rw [if_pos c53] at H
                    have c53b0 : (t223 == 0) = true := beq_iff_eq.mpr c53
                    have c53b1 : (t223 != 0) = false := bne_eq_false_iff_eq.mpr c53
                    clear c53
                    obtain rfl := Option.some.inj H
                    go_wp2
                    go_ret
                    exact ⟨by first | rfl | (simp [errW_none, errW_some] <;> rfl) | (simp only [← hji11]; first | rfl | (simp [errW_none, errW_some] <;> rfl)) | (simp [*, errW_none, errW_some] <;> rfl), by repeat (first | (with_reducible first | exact HB.out | apply below_alloc | apply pw_below_drewN | apply below_drew1) | exact HB.out)⟩
                  · rw [if_neg c53] at H
                    have c53b0 : (t223 == 0) = false := beq_eq_false_iff_ne.mpr c53
                    have c53b1 : (t223 != 0) = true := bne_iff_ne.mpr c53
                    by_cases c54 : t225 = 0
                    · rw [if_pos c54] at H
                      have c54b0 : (t225 == 0) = true := beq_iff_eq.mpr c54
                      have c54b1 : (t225 != 0) = false := bne_eq_false_iff_eq.mpr c54
                      clear c54
                      obtain rfl := Option.some.inj H
                      go_wp2
                      go_ret
                      exact ⟨by first | rfl | (simp [errW_none, errW_some] <;> rfl) | (simp only [← hji11]; first | rfl | (simp [errW_none, errW_some] <;> rfl)) | (simp [*, errW_none, errW_some] <;> rfl), by repeat (first | (with_reducible first | exact HB.out | apply below_alloc | apply pw_below_drewN | apply below_drew1) | exact HB.out)⟩
                    · rw [if_neg c54] at H
                      have c54b0 : (t225 == 0) = false := beq_eq_false_iff_ne.mpr c54
                      have c54b1 : (t225 != 0) = true := bne_iff_ne.mpr c54
                      obtain rfl := Option.some.inj H
                      go_wp2
                      go_ret
                      exact ⟨by first | rfl | (simp [errW_none, errW_some] <;> rfl) | (simp only [← hji11]; first | rfl | (simp [errW_none, errW_some] <;> rfl)) | (simp [*, errW_none, errW_some] <;> rfl), by repeat (first | (with_reducible first | exact HB.out | apply below_alloc | apply pw_below_drewN | apply below_drew1) | exact HB.out)⟩
    · rw [if_neg c13] at H
      exact absurd H (by simp)
  · rw [if_neg c12] at H
    exact absurd H (by simp)

/-- THE ONE PURE STATEMENT of demurrallaw05_StreamTwice: yours. -/
def demurrallaw05_StreamTwice.Pure : Prop := ∀ (a0 : ByteArray) (a1 : ByteArray) (a2 : ByteArray) (a3 : Int) (a4 : Int) (a5 : Int) (a6 : Int) (a7 : Int), a0.size ≤ 140737488351232 → a1.size ≤ 140737488351232 → a2.size ≤ 140737488351232 → (Lit.int .u32 a3).wf = true → (Lit.int .u32 a4).wf = true → (Lit.int .u32 a5).wf = true → (Lit.int .u32 a6).wf = true → (Lit.int .u32 a7).wf = true → ∃ k, demurrallaw05_StreamTwice.f k a0 a1 a2 a3 a4 a5 a6 a7 = some true
theorem demurrallaw05_StreamTwice.walk (P : demurrallaw05_StreamTwice.Pure) (a0 : ByteArray) (a1 : ByteArray) (a2 : ByteArray) (a3 : Int) (a4 : Int) (a5 : Int) (a6 : Int) (a7 : Int) (w : World) (w0 : a0.size ≤ 140737488351232) (w1 : a1.size ≤ 140737488351232) (w2 : a2.size ≤ 140737488351232) (w3 : (Lit.int .u32 a3).wf = true) (w4 : (Lit.int .u32 a4).wf = true) (w5 : (Lit.int .u32 a5).wf = true) (w6 : (Lit.int .u32 a6).wf = true) (w7 : (Lit.int .u32 a7).wf = true) :
    Calls Try.prog 5 #[.string a0, .string a1, .string a2, .int .u32 a3, .int .u32 a4, .int .u32 a5, .int .u32 a6, .int .u32 a7] w fun e w' => e = .returned (.bool true) ∧ Below w.heap.size w w' := by
  obtain ⟨k, h⟩ := P a0 a1 a2 a3 a4 a5 a6 a7 w0 w1 w2 w3 w4 w5 w6 w7
  refine (demurrallaw05_StreamTwice.calls k a0 a1 a2 a3 a4 a5 a6 a7 true w h).mono ?_
  rintro e w' ⟨rfl, hd⟩
  exact ⟨rfl, hd⟩

end Go.Proofs.Ytioafoilinhmjaa.Q
