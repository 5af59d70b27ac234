-- PRINTED by print.py (a twelfth state) out of the translation. Not trusted: Lean checks it.
import Derived.Test.YtioafoilinhmjaaQx0
import Derived.Test.YtioafoilinhmjaaQx106
import Derived.Test.YtioafoilinhmjaaQx110
import Derived.Test.YtioafoilinhmjaaQx111
import Derived.Test.YtioafoilinhmjaaQx115
import Derived.Test.YtioafoilinhmjaaQx116
import Derived.Test.YtioafoilinhmjaaHStream
import Derived.Test.YtioafoilinhmjaaHXor
namespace Go.Proofs.Ytioafoilinhmjaa.Q
open Go.RowKit Go.Proofs.YtioafoilinhmjaaW.PrintWords Go.Proofs.YtioafoilinhmjaaW.PrintLast Go.Proofs.YtioafoilinhmjaaW.PrintMore
attribute [local go_sem] max2_int min2_int max_two min_two max_three min_three max_four min_four   -- for this text's walks alone
set_option linter.unusedVariables false
set_option linter.unusedSimpArgs false

/-! ### demurrallaw05_StreamTexts: function 4 -/
mutual
def demurrallaw05_StreamTexts.j0 : Nat → ByteArray → ByteArray → Int → ByteArray → Bool → Option (Bool)
  | 0, _, _, _, _, _ => none
  | k + 1, x0, x1, x2, x3, x23 => if x23 = true then (demurrallaw05_StreamTexts.j1 k x0 x1 (wrap64 (200 + (Int.tmod x2 100))) x3) else (demurrallaw05_StreamTexts.j1 k x0 x1 x2 x3)
def demurrallaw05_StreamTexts.j1 : Nat → ByteArray → ByteArray → Int → ByteArray → Option (Bool)
  | 0, _, _, _, _ => none
  | k + 1, x0, x1, x2, x3 => if (x3.size : Int) ≤ 4096 then (if 0 ≤ (mn (x3.size : Int) 200) then (if (mn (x3.size : Int) 200) ≤ (x3.size : Int) then (demurrallaw05_StreamTexts.j2 k x0 x1 x2 (x3.extract 0 ((mn (x3.size : Int) 200) : Int).toNat)) else (none)) else (none)) else (demurrallaw05_StreamTexts.j2 k x0 x1 x2 x3)
def demurrallaw05_StreamTexts.j2 : Nat → ByteArray → ByteArray → Int → ByteArray → Option (Bool)
  | 0, _, _, _, _ => none
  | k + 1, x0, x1, x2, x3 => (stream_Stream.f x0 x1 x2).bind fun bt208 => ((stream_Xor.f x0 x1 x3).bind fun bt210 => ((demurralref05_May.f x0 x1).bind fun t212 => (if t212 = true then (if x2 ≥ 0 then (demurrallaw05_StreamTexts.j3 k x0 x1 x2 x3 bt208.1 bt208.2 bt210.1 bt210.2 (decide (x2 ≤ 4096))) else (demurrallaw05_StreamTexts.j3 k x0 x1 x2 x3 bt208.1 bt208.2 bt210.1 bt210.2 false)) else (demurrallaw05_StreamTexts.j3 k x0 x1 x2 x3 bt208.1 bt208.2 bt210.1 bt210.2 false))))
def demurrallaw05_StreamTexts.j3 : Nat → ByteArray → ByteArray → Int → ByteArray → ByteArray → Int → ByteArray → Int → Bool → Option (Bool)
  | 0, _, _, _, _, _, _, _, _, _ => none
  | k + 1, x0, x1, x2, x3, x9, x10, x11, x12, x13 => if x13 = true then (if x10 = 0 then ((demurralref05_Stream.f k x0 x1 x2).bind fun t213 => (if x9.toList = t213.toList then ((demurrallaw05_alive.f).bind fun t214 => (demurrallaw05_StreamTexts.j4 k x0 x1 x3 x11 x12 (!t214))) else (demurrallaw05_StreamTexts.j4 k x0 x1 x3 x11 x12 true))) else (demurrallaw05_StreamTexts.j4 k x0 x1 x3 x11 x12 true)) else (if x10 = 2 then (if x9.toList = ([] : List UInt8) then ((demurrallaw05_alive.f).bind fun t215 => (demurrallaw05_StreamTexts.j4 k x0 x1 x3 x11 x12 (!t215))) else (demurrallaw05_StreamTexts.j4 k x0 x1 x3 x11 x12 true)) else (demurrallaw05_StreamTexts.j4 k x0 x1 x3 x11 x12 true))
def demurrallaw05_StreamTexts.j4 : Nat → ByteArray → ByteArray → ByteArray → ByteArray → Int → Bool → Option (Bool)
  | 0, _, _, _, _, _, _ => none
  | k + 1, x0, x1, x3, x11, x12, x88 => if x88 = true then (some false) else ((demurralref05_May.f x0 x1).bind fun t216 => (if t216 = true then (if (x3.size : Int) > 4096 then (if x12 = 2 then (some (x11.toList == ([] : List UInt8))) else (some false)) else (if x12 = 0 then ((demurralref05_Xor.f k x0 x1 x3).bind fun t217 => (some (x11.toList == t217.toList))) else (some false))) else (if x12 = 2 then (some (x11.toList == ([] : List UInt8))) else (some false))))
end
def demurrallaw05_StreamTexts.f (k : Nat) (a0 : ByteArray) (a1 : ByteArray) (a2 : Int) (a3 : ByteArray) : Option (Bool) := (demurrallaw05_cut.f a0).bind fun t206 => ((demurrallaw05_cut.f a1).bind fun t207 => (if a2 > 300 then (demurrallaw05_StreamTexts.j0 k t206 t207 a2 a3 (decide (a2 ≤ 4096))) else (demurrallaw05_StreamTexts.j0 k t206 t207 a2 a3 false)))
theorem demurrallaw05_StreamTexts.mono_l : ∀ k, (∀ y0 y1 y2 y3 y4, LeO (demurrallaw05_StreamTexts.j0 k y0 y1 y2 y3 y4) (demurrallaw05_StreamTexts.j0 (k + 1) y0 y1 y2 y3 y4)) ∧ (∀ y0 y1 y2 y3, LeO (demurrallaw05_StreamTexts.j1 k y0 y1 y2 y3) (demurrallaw05_StreamTexts.j1 (k + 1) y0 y1 y2 y3)) ∧ (∀ y0 y1 y2 y3, LeO (demurrallaw05_StreamTexts.j2 k y0 y1 y2 y3) (demurrallaw05_StreamTexts.j2 (k + 1) y0 y1 y2 y3)) ∧ (∀ y0 y1 y2 y3 y4 y5 y6 y7 y8, LeO (demurrallaw05_StreamTexts.j3 k y0 y1 y2 y3 y4 y5 y6 y7 y8) (demurrallaw05_StreamTexts.j3 (k + 1) y0 y1 y2 y3 y4 y5 y6 y7 y8)) ∧ (∀ y0 y1 y2 y3 y4 y5, LeO (demurrallaw05_StreamTexts.j4 k y0 y1 y2 y3 y4 y5) (demurrallaw05_StreamTexts.j4 (k + 1) y0 y1 y2 y3 y4 y5))
  | 0 => ⟨fun _ _ _ _ _ r h => by simp [demurrallaw05_StreamTexts.j0] at h, fun _ _ _ _ r h => by simp [demurrallaw05_StreamTexts.j1] at h, fun _ _ _ _ r h => by simp [demurrallaw05_StreamTexts.j2] at h, fun _ _ _ _ _ _ _ _ _ r h => by simp [demurrallaw05_StreamTexts.j3] at h, fun _ _ _ _ _ _ r h => by simp [demurrallaw05_StreamTexts.j4] at h⟩
  | k + 1 => by
    obtain ⟨ih0, ih1, ih2, ih3, ih4⟩ := demurrallaw05_StreamTexts.mono_l k
    refine ⟨?_, ?_, ?_, ?_, ?_⟩
    · intro y0 y1 y2 y3 y4
      unfold demurrallaw05_StreamTexts.j0
      repeat' first
      | (with_reducible exact ih0 _ _ _ _ _)
      | (with_reducible exact ih1 _ _ _ _)
      | (with_reducible exact ih2 _ _ _ _)
      | (with_reducible exact ih3 _ _ _ _ _ _ _ _ _)
      | (with_reducible exact ih4 _ _ _ _ _ _)
      | (with_reducible exact demurralref05_Stream.mono _ _ _ _)
      | (with_reducible exact demurralref05_Xor.mono _ _ _ _)
      | (with_reducible exact LeO.refl _)
      | (with_reducible exact LeO.none _)
      | (with_reducible refine LeO.ite ?_ ?_)
      | (with_reducible refine LeO.bind ?_ (fun _ => ?_))
      | exact ih0 _ _ _ _ _
      | exact ih1 _ _ _ _
      | exact ih2 _ _ _ _
      | exact ih3 _ _ _ _ _ _ _ _ _
      | exact ih4 _ _ _ _ _ _
      | exact demurralref05_Stream.mono _ _ _ _
      | exact demurralref05_Xor.mono _ _ _ _
      | exact LeO.none _
      | refine LeO.ite ?_ ?_
      | refine LeO.bind ?_ (fun _ => ?_)
    · intro y0 y1 y2 y3
      unfold demurrallaw05_StreamTexts.j1
      repeat' first
      | (with_reducible exact ih0 _ _ _ _ _)
      | (with_reducible exact ih1 _ _ _ _)
      | (with_reducible exact ih2 _ _ _ _)
      | (with_reducible exact ih3 _ _ _ _ _ _ _ _ _)
      | (with_reducible exact ih4 _ _ _ _ _ _)
      | (with_reducible exact demurralref05_Stream.mono _ _ _ _)
      | (with_reducible exact demurralref05_Xor.mono _ _ _ _)
      | (with_reducible exact LeO.refl _)
      | (with_reducible exact LeO.none _)
      | (with_reducible refine LeO.ite ?_ ?_)
      | (with_reducible refine LeO.bind ?_ (fun _ => ?_))
      | exact ih0 _ _ _ _ _
      | exact ih1 _ _ _ _
      | exact ih2 _ _ _ _
      | exact ih3 _ _ _ _ _ _ _ _ _
      | exact ih4 _ _ _ _ _ _
      | exact demurralref05_Stream.mono _ _ _ _
      | exact demurralref05_Xor.mono _ _ _ _
      | exact LeO.none _
      | refine LeO.ite ?_ ?_
      | refine LeO.bind ?_ (fun _ => ?_)
    · intro y0 y1 y2 y3
      unfold demurrallaw05_StreamTexts.j2
      repeat' first
      | (with_reducible exact ih0 _ _ _ _ _)
      | (with_reducible exact ih1 _ _ _ _)
      | (with_reducible exact ih2 _ _ _ _)
      | (with_reducible exact ih3 _ _ _ _ _ _ _ _ _)
      | (with_reducible exact ih4 _ _ _ _ _ _)
      | (with_reducible exact demurralref05_Stream.mono _ _ _ _)
      | (with_reducible exact demurralref05_Xor.mono _ _ _ _)
      | (with_reducible exact LeO.refl _)
      | (with_reducible exact LeO.none _)
      | (with_reducible refine LeO.ite ?_ ?_)
      | (with_reducible refine LeO.bind ?_ (fun _ => ?_))
      | exact ih0 _ _ _ _ _
      | exact ih1 _ _ _ _
      | exact ih2 _ _ _ _
      | exact ih3 _ _ _ _ _ _ _ _ _
      | exact ih4 _ _ _ _ _ _
      | exact demurralref05_Stream.mono _ _ _ _
      | exact demurralref05_Xor.mono _ _ _ _
      | exact LeO.none _
      | refine LeO.ite ?_ ?_
      | refine LeO.bind ?_ (fun _ => ?_)
    · intro y0 y1 y2 y3 y4 y5 y6 y7 y8
      unfold demurrallaw05_StreamTexts.j3
      repeat' first
      | (with_reducible exact ih0 _ _ _ _ _)
      | (with_reducible exact ih1 _ _ _ _)
      | (with_reducible exact ih2 _ _ _ _)
      | (with_reducible exact ih3 _ _ _ _ _ _ _ _ _)
      | (with_reducible exact ih4 _ _ _ _ _ _)
      | (with_reducible exact demurralref05_Stream.mono _ _ _ _)
      | (with_reducible exact demurralref05_Xor.mono _ _ _ _)
      | (with_reducible exact LeO.refl _)
      | (with_reducible exact LeO.none _)
      | (with_reducible refine LeO.ite ?_ ?_)
      | (with_reducible refine LeO.bind ?_ (fun _ => ?_))
      | exact ih0 _ _ _ _ _
      | exact ih1 _ _ _ _
      | exact ih2 _ _ _ _
      | exact ih3 _ _ _ _ _ _ _ _ _
      | exact ih4 _ _ _ _ _ _
      | exact demurralref05_Stream.mono _ _ _ _
      | exact demurralref05_Xor.mono _ _ _ _
      | exact LeO.none _
      | refine LeO.ite ?_ ?_
      | refine LeO.bind ?_ (fun _ => ?_)
    · intro y0 y1 y2 y3 y4 y5
      unfold demurrallaw05_StreamTexts.j4
      repeat' first
      | (with_reducible exact ih0 _ _ _ _ _)
      | (with_reducible exact ih1 _ _ _ _)
      | (with_reducible exact ih2 _ _ _ _)
      | (with_reducible exact ih3 _ _ _ _ _ _ _ _ _)
      | (with_reducible exact ih4 _ _ _ _ _ _)
      | (with_reducible exact demurralref05_Stream.mono _ _ _ _)
      | (with_reducible exact demurralref05_Xor.mono _ _ _ _)
      | (with_reducible exact LeO.refl _)
      | (with_reducible exact LeO.none _)
      | (with_reducible refine LeO.ite ?_ ?_)
      | (with_reducible refine LeO.bind ?_ (fun _ => ?_))
      | exact ih0 _ _ _ _ _
      | exact ih1 _ _ _ _
      | exact ih2 _ _ _ _
      | exact ih3 _ _ _ _ _ _ _ _ _
      | exact ih4 _ _ _ _ _ _
      | exact demurralref05_Stream.mono _ _ _ _
      | exact demurralref05_Xor.mono _ _ _ _
      | exact LeO.none _
      | refine LeO.ite ?_ ?_
      | refine LeO.bind ?_ (fun _ => ?_)
theorem demurrallaw05_StreamTexts.mono : ∀ a0 a1 a2 a3 k, LeO (demurrallaw05_StreamTexts.f k a0 a1 a2 a3) (demurrallaw05_StreamTexts.f (k + 1) a0 a1 a2 a3) := by
  intro a0 a1 a2 a3 k
  obtain ⟨ih0, ih1, ih2, ih3, ih4⟩ := demurrallaw05_StreamTexts.mono_l k
  unfold demurrallaw05_StreamTexts.f
  repeat' first
      | (with_reducible exact ih0 _ _ _ _ _)
      | (with_reducible exact ih1 _ _ _ _)
      | (with_reducible exact ih2 _ _ _ _)
      | (with_reducible exact ih3 _ _ _ _ _ _ _ _ _)
      | (with_reducible exact ih4 _ _ _ _ _ _)
      | (with_reducible exact demurralref05_Stream.mono _ _ _ _)
      | (with_reducible exact demurralref05_Xor.mono _ _ _ _)
      | (with_reducible exact LeO.refl _)
      | (with_reducible exact LeO.none _)
      | (with_reducible refine LeO.ite ?_ ?_)
      | (with_reducible refine LeO.bind ?_ (fun _ => ?_))
      | exact ih0 _ _ _ _ _
      | exact ih1 _ _ _ _
      | exact ih2 _ _ _ _
      | exact ih3 _ _ _ _ _ _ _ _ _
      | exact ih4 _ _ _ _ _ _
      | exact demurralref05_Stream.mono _ _ _ _
      | exact demurralref05_Xor.mono _ _ _ _
      | exact LeO.none _
      | refine LeO.ite ?_ ?_
      | refine LeO.bind ?_ (fun _ => ?_)
set_option maxHeartbeats 8000000 in
set_option maxRecDepth 100000 in
theorem demurrallaw05_StreamTexts.calls (k : Nat) (a0 : ByteArray) (a1 : ByteArray) (a2 : Int) (a3 : ByteArray) (r : Bool) (w : World) (h : demurrallaw05_StreamTexts.f k a0 a1 a2 a3 = some r) :
    Calls Try.prog 4 #[.string a0, .string a1, .int .i64 a2, .string a3] w fun e w' => e = .returned (.bool r) ∧ Below w.heap.size w w' := by
  have HB := Aside0.mk (Below.refl w.heap.size w)
  have H : ((demurrallaw05_cut.f a0).bind fun t206 => ((demurrallaw05_cut.f a1).bind fun t207 => (if a2 > 300 then (demurrallaw05_StreamTexts.j0 k t206 t207 a2 a3 (decide (a2 ≤ 4096))) else (demurrallaw05_StreamTexts.j0 k t206 t207 a2 a3 false)))) = some r := h
  clear h
  replace H := Option.bind_eq_some_iff.mp H
  obtain ⟨t206, A50, H⟩ := H
  replace H : ((demurrallaw05_cut.f a1).bind fun t207 => (if a2 > 300 then (demurrallaw05_StreamTexts.j0 k t206 t207 a2 a3 (decide (a2 ≤ 4096))) else (demurrallaw05_StreamTexts.j0 k t206 t207 a2 a3 false))) = some r := H
  have A5 := Aside0.mk A50
  clear A50
  replace H := Option.bind_eq_some_iff.mp H
  obtain ⟨t207, A60, H⟩ := H
  replace H : (if a2 > 300 then (demurrallaw05_StreamTexts.j0 k t206 t207 a2 a3 (decide (a2 ≤ 4096))) else (demurrallaw05_StreamTexts.j0 k t206 t207 a2 a3 false)) = some r := H
  have A6 := Aside0.mk A60
  clear A60
  have HC7 := Aside0.mk H
  clear H
  go_enter Try.func4, Try.ntmps4
  go_upto_region 2 with (first | ((with_reducible refine gate_callee (f := 6) rfl ?_); refine goesL_ (some 15) rfl rfl Try.func6 (by kernel_rfl) rfl #[.string a0] rfl (by (try simp only [List.map_toArray, List.map_cons, List.map_nil]); first | done | rfl | (simp only [List.length_drop, List.length_take]; rfl)) ?_; (with_reducible refine (demurrallaw05_cut.calls a0 t206 _ A5.out).mono ?_); rintro e w8 ⟨rfl, hb⟩; refine ⟨_, rfl, ?_⟩; have n0_ := Aside0.mk (below_step (by repeat (first | (with_reducible first | exact HB.out | apply below_alloc | apply pw_below_drewN | apply below_drew1) | exact HB.out)) hb); clear HB; have HB := n0_; clear n0_; (try clear hb); (try clear hb2); (try clear hk); (try clear hi)) | ((with_reducible refine gate_callee (f := 6) rfl ?_); refine goesL_ (some 17) rfl rfl Try.func6 (by kernel_rfl) rfl #[.string a1] rfl (by (try simp only [List.map_toArray, List.map_cons, List.map_nil]); first | done | rfl | (simp only [List.length_drop, List.length_take]; rfl)) ?_; (with_reducible refine (demurrallaw05_cut.calls a1 t207 _ A6.out).mono ?_); rintro e w9 ⟨rfl, hb⟩; refine ⟨_, rfl, ?_⟩; have n0_ := Aside0.mk (below_step (by repeat (first | (with_reducible first | exact HB.out | apply below_alloc | apply pw_below_drewN | apply below_drew1) | exact HB.out)) hb); clear HB; have HB := n0_; clear n0_; (try clear hb); (try clear hb2); (try clear hk); (try clear hi)))
  (try simp only [Act.put, List.setIfInBounds_toArray, List.set_cons_zero, List.set_cons_succ])
  go_cut [23] (fun v23 wc => ∃ (kq : Nat) (x23_6 : Bool), v23 = .bool x23_6 ∧ Aside0 (demurrallaw05_StreamTexts.j0 kq t206 t207 a2 a3 x23_6 = some r) ∧ Aside0 (kq ≤ k) ∧ Aside0 (Below w.heap.size w wc))
  case first =>
    have H := HC7.out
    clear HC7
    by_cases c10 : a2 > 300
    · rw [if_pos c10] at H
      have c10b0 : decide (300 < a2) = true := decide_eq_true c10
      clear c10
      (first | rw [c10b0] | (simp only [i64_w, i32_w]; rw [c10b0]) | skip)
      have H' := Aside0.mk H
      clear H
      go_wp2
      go_meet
      case rel => exact ⟨_, (decide (a2 ≤ 4096)), (by first | rfl | (simp; done) | (simp [*]; done)), H', ⟨by first | omega | exact Nat.le_refl _⟩, ⟨by repeat (first | (with_reducible first | exact HB.out | apply below_alloc | apply pw_below_drewN | apply below_drew1) | exact HB.out)⟩⟩
    · rw [if_neg c10] at H
      have c10b0 : decide (300 < a2) = false := decide_eq_false c10
      clear c10
      (first | rw [c10b0] | (simp only [i64_w, i32_w]; rw [c10b0]) | skip)
      have H' := Aside0.mk H
      clear H
      go_wp2
      go_meet
      case rel => exact ⟨_, (false), (by first | rfl | (simp; done) | (simp [*]; done)), H', ⟨by first | omega | exact Nat.le_refl _⟩, ⟨by repeat (first | (with_reducible first | exact HB.out | apply below_alloc | apply pw_below_drewN | apply below_drew1) | exact HB.out)⟩⟩
  case rest =>
    clear HC7
    try clear c1
    try clear p2
    try clear c4
    try clear c6
    try clear c10
    try clear c10b0
    obtain ⟨kq, x23_6, rfl, HA, HJ6, HB⟩ := hcut
    cases kq with
    | zero => exact absurd HA.out (by simp [demurrallaw05_StreamTexts.j0])
    | succ kj6 =>
      have H := HA.out
      clear HA
      simp only [demurrallaw05_StreamTexts.j0] at H
      have HC11 := Aside0.mk H
      clear H
      go_upto_if 23 with (fail)
      go_cut [2] (fun v2 wc => ∃ (kq : Nat) (x2_10 : Int), v2 = .int .i64 x2_10 ∧ Aside0 (demurrallaw05_StreamTexts.j1 kq t206 t207 x2_10 a3 = some r) ∧ Aside0 (kq ≤ kj6) ∧ Aside0 (Below w.heap.size w wc))
      case first =>
        have H := HC11.out
        clear HC11
        by_cases c12 : x23_6 = true
        · subst c12
          have H1 : (demurrallaw05_StreamTexts.j1 kj6 t206 t207 (wrap64 (200 + (Int.tmod a2 100))) a3) = some r := by rw [if_pos rfl] at H; exact H
          clear H
          have H := H1
          clear H1
          have H' := Aside0.mk H
          clear H
          go_wp2
          go_meet
          case rel => exact ⟨_, (wrap64 (200 + (Int.tmod a2 100))), (by first | rfl | (simp; done) | (simp [*]; done)), H', ⟨by have := HJ6.out; first | omega | exact Nat.le_refl _⟩, ⟨by repeat (first | (with_reducible first | exact HB.out | apply below_alloc | apply pw_below_drewN | apply below_drew1) | exact HB.out)⟩⟩
        · replace c12 := Bool.eq_false_iff.mpr c12
          subst c12
          have H1 : (demurrallaw05_StreamTexts.j1 kj6 t206 t207 a2 a3) = some r := by rw [if_neg (show ¬ (false = true) by decide)] at H; exact H
          clear H
          have H := H1
          clear H1
          have H' := Aside0.mk H
          clear H
          go_wp2
          go_meet
          case rel => exact ⟨_, (a2), (by first | rfl | (simp; done) | (simp [*]; done)), H', ⟨by have := HJ6.out; first | omega | exact Nat.le_refl _⟩, ⟨by repeat (first | (with_reducible first | exact HB.out | apply below_alloc | apply pw_below_drewN | apply below_drew1) | exact HB.out)⟩⟩
      case rest =>
        clear HC11
        try clear c1
        try clear p2
        try clear c4
        try clear c6
        try clear p6
        try clear c10
        try clear c10b0
        try clear c12
        try clear p2
        obtain ⟨kq, x2_10, rfl, HA, HJ10, HB⟩ := hcut
        cases kq with
        | zero => exact absurd HA.out (by simp [demurrallaw05_StreamTexts.j1])
        | succ kj10 =>
          have H := HA.out
          clear HA
          simp only [demurrallaw05_StreamTexts.j1] at H
          have HC13 := Aside0.mk H
          clear H
          go_upto_if 29 with (fail)
          go_cut [3] (fun v3 wc => ∃ (kq : Nat) (x3_12 : ByteArray), v3 = .string x3_12 ∧ Aside0 (demurrallaw05_StreamTexts.j2 kq t206 t207 x2_10 x3_12 = some r) ∧ Aside0 (kq ≤ kj10) ∧ Aside0 (Below w.heap.size w wc))
          case first =>
            have H := HC13.out
            clear HC13
            by_cases c14 : (a3.size : Int) ≤ 4096
            · rw [if_pos c14] at H
              have c14b0 : decide ((a3.size : Int) ≤ 4096) = true := decide_eq_true c14
              have c14b1 : decide (a3.size ≤ 4096) = true := decide_eq_true (by omega)
              clear c14
              (first | rw [c14b0] | (simp only [i64_w, i32_w]; rw [c14b0]) | skip)
              obtain ⟨ji15, hji15⟩ : ∃ j_ : Int, (mn (a3.size : Int) 200) = j_ := ⟨_, rfl⟩
              replace H : (if 0 ≤ (ji15) then (if (ji15) ≤ (a3.size : Int) then (demurrallaw05_StreamTexts.j2 kj10 t206 t207 x2_10 (a3.extract 0 ((ji15) : Int).toNat)) else (none)) else (none)) = some r := by first | (rw [hji15] at H; exact H) | (simp only [hji15] at H ⊢; exact H)
              have hji15_ : (if 200 < (a3.size : Int) then 200 else (a3.size : Int)) = ji15 := hji15
              by_cases c16 : 0 ≤ (ji15)
              · rw [if_pos c16] at H
                have c16b0 := eq_true c16
                have c16b1 : decide (0 ≤ (ji15)) = true := decide_eq_true c16
                clear c16
                by_cases c17 : (ji15) ≤ (a3.size : Int)
                · rw [if_pos c17] at H
                  have c17b0 := eq_true c17
                  have c17b1 : decide ((ji15) ≤ (a3.size : Int)) = true := decide_eq_true c17
                  clear c17
                  have H' := Aside0.mk H
                  clear H
                  go_wp2
                  go_meet
                  case rel => exact ⟨_, (a3.extract 0 ((ji15) : Int).toNat), (by first | rfl | (simp; done) | (simp only [← hji15] <;> (first | rfl | simp)) | (simp [*]; done)), H', ⟨by have := HJ6.out; have := HJ10.out; first | omega | exact Nat.le_refl _⟩, ⟨by repeat (first | (with_reducible first | exact HB.out | apply below_alloc | apply pw_below_drewN | apply below_drew1) | exact HB.out)⟩⟩
                · rw [if_neg c17] at H
                  exact absurd H (by simp)
              · rw [if_neg c16] at H
                exact absurd H (by simp)
            · rw [if_neg c14] at H
              have c14b0 : decide ((a3.size : Int) ≤ 4096) = false := decide_eq_false c14
              have c14b1 : decide (a3.size ≤ 4096) = false := decide_eq_false (by omega)
              clear c14
              (first | rw [c14b0] | (simp only [i64_w, i32_w]; rw [c14b0]) | skip)
              have H' := Aside0.mk H
              clear H
              go_wp2
              go_meet
              case rel => exact ⟨_, (a3), (by first | rfl | (simp; done) | (simp [*]; done)), H', ⟨by have := HJ6.out; have := HJ10.out; first | omega | exact Nat.le_refl _⟩, ⟨by repeat (first | (with_reducible first | exact HB.out | apply below_alloc | apply pw_below_drewN | apply below_drew1) | exact HB.out)⟩⟩
          case rest =>
            clear HC13
            try clear c1
            try clear p2
            try clear c4
            try clear c6
            try clear p6
            try clear c10
            try clear c10b0
            try clear c12
            try clear c14
            try clear c14b0
            try clear c14b1
            try clear c16
            try clear c16b0
            try clear c16b1
            try clear c17
            try clear c17b0
            try clear c17b1
            try clear p2
            try clear p6
            obtain ⟨kq, x3_12, rfl, HA, HJ12, HB⟩ := hcut
            cases kq with
            | zero => exact absurd HA.out (by simp [demurrallaw05_StreamTexts.j2])
            | succ kj12 =>
              have H := HA.out
              clear HA
              simp only [demurrallaw05_StreamTexts.j2] at H
              replace H := Option.bind_eq_some_iff.mp H
              obtain ⟨⟨t208, t209⟩, A180, H⟩ := H
              replace H : ((stream_Xor.f t206 t207 x3_12).bind fun bt210 => ((demurralref05_May.f t206 t207).bind fun t212 => (if t212 = true then (if x2_10 ≥ 0 then (demurrallaw05_StreamTexts.j3 kj12 t206 t207 x2_10 x3_12 t208 t209 bt210.1 bt210.2 (decide (x2_10 ≤ 4096))) else (demurrallaw05_StreamTexts.j3 kj12 t206 t207 x2_10 x3_12 t208 t209 bt210.1 bt210.2 false)) else (demurrallaw05_StreamTexts.j3 kj12 t206 t207 x2_10 x3_12 t208 t209 bt210.1 bt210.2 false)))) = some r := H
              have A18 := Aside0.mk A180
              clear A180
              replace H := Option.bind_eq_some_iff.mp H
              obtain ⟨⟨t210, t211⟩, A190, H⟩ := H
              replace H : ((demurralref05_May.f t206 t207).bind fun t212 => (if t212 = true then (if x2_10 ≥ 0 then (demurrallaw05_StreamTexts.j3 kj12 t206 t207 x2_10 x3_12 t208 t209 t210 t211 (decide (x2_10 ≤ 4096))) else (demurrallaw05_StreamTexts.j3 kj12 t206 t207 x2_10 x3_12 t208 t209 t210 t211 false)) else (demurrallaw05_StreamTexts.j3 kj12 t206 t207 x2_10 x3_12 t208 t209 t210 t211 false))) = some r := H
              have A19 := Aside0.mk A190
              clear A190
              have HC20 := Aside0.mk H
              clear H
              go_upto_region 8 with (first | ((with_reducible refine gate_callee (f := 13) rfl ?_); refine goesL_ (some 39) rfl rfl Try.func13 (by kernel_rfl) rfl #[.string t206, .string t207, .int .i64 x2_10] rfl (by (try simp only [List.map_toArray, List.map_cons, List.map_nil]); first | done | rfl | (simp only [List.length_drop, List.length_take]; rfl)) ?_; (with_reducible refine (stream_Stream.calls t206 t207 x2_10 t208 t209 _ A18.out).mono ?_); rintro e w21 ⟨rfl, hb⟩; refine ⟨_, rfl, ?_⟩; have n0_ := Aside0.mk (below_step (by repeat (first | (with_reducible first | exact HB.out | apply below_alloc | apply pw_below_drewN | apply below_drew1) | exact HB.out)) hb); clear HB; have HB := n0_; clear n0_; (try clear hb); (try clear hb2); (try clear hk); (try clear hi)) | ((with_reducible refine gate_callee (f := 14) rfl ?_); refine goesL_ (some 46) rfl rfl Try.func14 (by kernel_rfl) rfl #[.string t206, .string t207, .string x3_12] rfl (by (try simp only [List.map_toArray, List.map_cons, List.map_nil]); first | done | rfl | (simp only [List.length_drop, List.length_take]; rfl)) ?_; (with_reducible refine (stream_Xor.calls t206 t207 x3_12 t210 t211 _ A19.out).mono ?_); rintro e w22 ⟨rfl, hb⟩; refine ⟨_, rfl, ?_⟩; have n0_ := Aside0.mk (below_step (by repeat (first | (with_reducible first | exact HB.out | apply below_alloc | apply pw_below_drewN | apply below_drew1) | exact HB.out)) hb); clear HB; have HB := n0_; clear n0_; (try clear hb); (try clear hb2); (try clear hk); (try clear hi)))
              (try simp only [Act.put, List.setIfInBounds_toArray, List.set_cons_zero, List.set_cons_succ])
              go_cut [13] (fun v13 wc => ∃ (kq : Nat) (x13_19 : Bool), v13 = .bool x13_19 ∧ Aside0 (demurrallaw05_StreamTexts.j3 kq t206 t207 x2_10 x3_12 t208 t209 t210 t211 x13_19 = some r) ∧ Aside0 (kq ≤ kj12) ∧ Aside0 (Below w.heap.size w wc))
              case first =>
                have H := HC20.out
                clear HC20
                replace H := Option.bind_eq_some_iff.mp H
                obtain ⟨t212, A230, H⟩ := H
                replace H : (if t212 = true then (if x2_10 ≥ 0 then (demurrallaw05_StreamTexts.j3 kj12 t206 t207 x2_10 x3_12 t208 t209 t210 t211 (decide (x2_10 ≤ 4096))) else (demurrallaw05_StreamTexts.j3 kj12 t206 t207 x2_10 x3_12 t208 t209 t210 t211 false)) else (demurrallaw05_StreamTexts.j3 kj12 t206 t207 x2_10 x3_12 t208 t209 t210 t211 false)) = some r := H
                have A23 := Aside0.mk A230
                clear A230
                by_cases c24 : t212 = true
                · subst c24
                  have H1 : (if x2_10 ≥ 0 then (demurrallaw05_StreamTexts.j3 kj12 t206 t207 x2_10 x3_12 t208 t209 t210 t211 (decide (x2_10 ≤ 4096))) else (demurrallaw05_StreamTexts.j3 kj12 t206 t207 x2_10 x3_12 t208 t209 t210 t211 false)) = some r := by rw [if_pos rfl] at H; exact H
                  clear H
                  have H := H1
                  clear H1
                  by_cases c25 : x2_10 ≥ 0
                  · rw [if_pos c25] at H
                    have c25b0 : decide (0 ≤ x2_10) = true := decide_eq_true c25
                    clear c25
                    (first | rw [c25b0] | (simp only [i64_w, i32_w]; rw [c25b0]) | skip)
                    have H' := Aside0.mk H
                    clear H
                    go_wp2_with (first | ((with_reducible refine gate_callee (f := 11) rfl ?_); refine goesL_ (some 51) rfl rfl Try.func11 (by kernel_rfl) rfl #[.string t206, .string t207] rfl (by (try simp only [List.map_toArray, List.map_cons, List.map_nil]); first | done | rfl | (simp only [List.length_drop, List.length_take]; rfl)) ?_; (with_reducible refine (demurralref05_May.calls t206 t207 true _ A23.out).mono ?_); rintro e w' ⟨rfl, ⟨nd, rfl⟩⟩; refine ⟨_, rfl, ?_⟩))
                    go_meet
                    case rel => exact ⟨_, (decide (x2_10 ≤ 4096)), (by first | rfl | (simp; done) | (simp [*]; done)), H', ⟨by have := HJ6.out; have := HJ10.out; have := HJ12.out; first | omega | exact Nat.le_refl _⟩, ⟨by repeat (first | (with_reducible first | exact HB.out | apply below_alloc | apply pw_below_drewN | apply below_drew1) | exact HB.out)⟩⟩
                  · rw [if_neg c25] at H
                    have c25b0 : decide (0 ≤ x2_10) = false := decide_eq_false c25
                    clear c25
                    (first | rw [c25b0] | (simp only [i64_w, i32_w]; rw [c25b0]) | skip)
                    have H' := Aside0.mk H
                    clear H
                    go_wp2_with (first | ((with_reducible refine gate_callee (f := 11) rfl ?_); refine goesL_ (some 51) rfl rfl Try.func11 (by kernel_rfl) rfl #[.string t206, .string t207] rfl (by (try simp only [List.map_toArray, List.map_cons, List.map_nil]); first | done | rfl | (simp only [List.length_drop, List.length_take]; rfl)) ?_; (with_reducible refine (demurralref05_May.calls t206 t207 true _ A23.out).mono ?_); rintro e w' ⟨rfl, ⟨nd, rfl⟩⟩; refine ⟨_, rfl, ?_⟩))
                    go_meet
                    case rel => exact ⟨_, (false), (by first | rfl | (simp; done) | (simp [*]; done)), H', ⟨by have := HJ6.out; have := HJ10.out; have := HJ12.out; first | omega | exact Nat.le_refl _⟩, ⟨by repeat (first | (with_reducible first | exact HB.out | apply below_alloc | apply pw_below_drewN | apply below_drew1) | exact HB.out)⟩⟩
                · replace c24 := Bool.eq_false_iff.mpr c24
                  subst c24
                  have H1 : (demurrallaw05_StreamTexts.j3 kj12 t206 t207 x2_10 x3_12 t208 t209 t210 t211 false) = some r := by rw [if_neg (show ¬ (false = true) by decide)] at H; exact H
                  clear H
                  have H := H1
                  clear H1
                  have H' := Aside0.mk H
                  clear H
                  go_wp2_with (first | ((with_reducible refine gate_callee (f := 11) rfl ?_); refine goesL_ (some 51) rfl rfl Try.func11 (by kernel_rfl) rfl #[.string t206, .string t207] rfl (by (try simp only [List.map_toArray, List.map_cons, List.map_nil]); first | done | rfl | (simp only [List.length_drop, List.length_take]; rfl)) ?_; (with_reducible refine (demurralref05_May.calls t206 t207 false _ A23.out).mono ?_); rintro e w' ⟨rfl, ⟨nd, rfl⟩⟩; refine ⟨_, rfl, ?_⟩))
                  go_meet
                  case rel => exact ⟨_, (false), (by first | rfl | (simp; done) | (simp [*]; done)), H', ⟨by have := HJ6.out; have := HJ10.out; have := HJ12.out; first | omega | exact Nat.le_refl _⟩, ⟨by repeat (first | (with_reducible first | exact HB.out | apply below_alloc | apply pw_below_drewN | apply below_drew1) | exact HB.out)⟩⟩
              case rest =>
                clear HC20
                try clear c1
                try clear c2
                try clear p2
                try clear c4
                try clear c6
                try clear p6
                try clear c10
                try clear c10b0
                try clear c11
                try clear c12
                try clear c13
                try clear c14
                try clear c14b0
                try clear c14b1
                try clear c16
                try clear c16b0
                try clear c16b1
                try clear c17
                try clear c17b0
                try clear c17b1
                try clear c24
                try clear c25
                try clear c25b0
                try clear p2
                try clear p6
                obtain ⟨kq, x13_19, rfl, HA, HJ19, HB⟩ := hcut
                cases kq with
                | zero => exact absurd HA.out (by simp [demurrallaw05_StreamTexts.j3])
                | succ kj19 =>
                  have H := HA.out
                  clear HA
                  simp only [demurrallaw05_StreamTexts.j3] at H
                  have HC26 := Aside0.mk H
                  clear H
                  go_upto_region 9 with (fail)
                  go_cut [88] (fun v88 wc => ∃ (kq : Nat) (x88_25 : Bool), v88 = .bool x88_25 ∧ Aside0 (demurrallaw05_StreamTexts.j4 kq t206 t207 x3_12 t210 t211 x88_25 = some r) ∧ Aside0 (kq ≤ kj19) ∧ Aside0 (Below w.heap.size w wc))
                  case first =>
                    have H := HC26.out
                    clear HC26
                    by_cases c27 : x13_19 = true
                    · subst c27
                      have H1 : (if t209 = 0 then ((demurralref05_Stream.f kj19 t206 t207 x2_10).bind fun t213 => (if t208.toList = t213.toList then ((demurrallaw05_alive.f).bind fun t214 => (demurrallaw05_StreamTexts.j4 kj19 t206 t207 x3_12 t210 t211 (!t214))) else (demurrallaw05_StreamTexts.j4 kj19 t206 t207 x3_12 t210 t211 true))) else (demurrallaw05_StreamTexts.j4 kj19 t206 t207 x3_12 t210 t211 true)) = some r := by rw [if_pos rfl] at H; exact H
                      clear H
                      have H := H1
                      clear H1
                      by_cases c28 : t209 = 0
                      · rw [if_pos c28] at H
                        have c28b0 : (t209 == 0) = true := beq_iff_eq.mpr c28
                        have c28b1 : (t209 != 0) = false := bne_eq_false_iff_eq.mpr c28
                        clear c28
                        (first | rw [c28b0] | (simp only [i64_w, i32_w]; rw [c28b0]) | skip)
                        replace H := Option.bind_eq_some_iff.mp H
                        obtain ⟨t213, A290, H⟩ := H
                        replace H : (if t208.toList = t213.toList then ((demurrallaw05_alive.f).bind fun t214 => (demurrallaw05_StreamTexts.j4 kj19 t206 t207 x3_12 t210 t211 (!t214))) else (demurrallaw05_StreamTexts.j4 kj19 t206 t207 x3_12 t210 t211 true)) = some r := H
                        have A29 := Aside0.mk A290
                        clear A290
                        by_cases c30 : t208.toList = t213.toList
                        · rw [if_pos c30] at H
                          have c30b0 : (t208.toList == t213.toList) = true := beq_iff_eq.mpr c30
                          have c30b1 : (t208.toList != t213.toList) = false := bne_eq_false_iff_eq.mpr c30
                          clear c30
                          replace H := Option.bind_eq_some_iff.mp H
                          obtain ⟨t214, A310, H⟩ := H
                          replace H : (demurrallaw05_StreamTexts.j4 kj19 t206 t207 x3_12 t210 t211 (!t214)) = some r := H
                          have A31 := Aside0.mk A310
                          clear A310
                          have H' := Aside0.mk H
                          clear H
                          go_wp2_with (first | (go_at_call 15; (with_reducible refine (demurralref05_Stream.calls kj19 t206 t207 x2_10 t213 _ A29.out).mono ?_); rintro e w32 ⟨rfl, hb⟩; have n0_ := Aside0.mk (below_step (by repeat (first | (with_reducible first | exact HB.out | apply below_alloc | apply pw_below_drewN | apply below_drew1) | exact HB.out)) hb); clear HB; have HB := n0_; clear n0_; (try clear hb); (try clear hb2); (try clear hk); (try clear hi)) | (go_at_call 10; (with_reducible refine (demurrallaw05_alive.calls  t214 _ A31.out).mono ?_); rintro e w33 ⟨rfl, hb⟩; have n0_ := Aside0.mk (below_step (by repeat (first | (with_reducible first | exact HB.out | apply below_alloc | apply pw_below_drewN | apply below_drew1) | exact HB.out)) hb); clear HB; have HB := n0_; clear n0_; (try clear hb); (try clear hb2); (try clear hk); (try clear hi)))
                          go_meet
                          case rel => exact ⟨_, (!t214), (by first | rfl | (simp; done) | (simp [*]; done)), H', ⟨by have := HJ6.out; have := HJ10.out; have := HJ12.out; have := HJ19.out; first | omega | exact Nat.le_refl _⟩, ⟨by repeat (first | (with_reducible first | exact HB.out | apply below_alloc | apply pw_below_drewN | apply below_drew1) | exact HB.out)⟩⟩
                        · rw [if_neg c30] at H
                          have c30b0 : (t208.toList == t213.toList) = false := beq_eq_false_iff_ne.mpr c30
                          have c30b1 : (t208.toList != t213.toList) = true := bne_iff_ne.mpr c30
                          have H' := Aside0.mk H
                          clear H
                          go_wp2_with (first | (go_at_call 15; (with_reducible refine (demurralref05_Stream.calls kj19 t206 t207 x2_10 t213 _ A29.out).mono ?_); rintro e w34 ⟨rfl, hb⟩; have n0_ := Aside0.mk (below_step (by repeat (first | (with_reducible first | exact HB.out | apply below_alloc | apply pw_below_drewN | apply below_drew1) | exact HB.out)) hb); clear HB; have HB := n0_; clear n0_; (try clear hb); (try clear hb2); (try clear hk); (try clear hi)))
                          go_meet
                          case rel => exact ⟨_, (true), (by first | rfl | (simp; done) | (simp [*]; done)), H', ⟨by have := HJ6.out; have := HJ10.out; have := HJ12.out; have := HJ19.out; first | omega | exact Nat.le_refl _⟩, ⟨by repeat (first | (with_reducible first | exact HB.out | apply below_alloc | apply pw_below_drewN | apply below_drew1) | exact HB.out)⟩⟩
                      · rw [if_neg c28] at H
                        have c28b0 : (t209 == 0) = false := beq_eq_false_iff_ne.mpr c28
                        have c28b1 : (t209 != 0) = true := bne_iff_ne.mpr c28
                        (first | rw [c28b0] | (simp only [i64_w, i32_w]; rw [c28b0]) | skip)
                        have H' := Aside0.mk H
                        clear H
                        go_wp2
                        go_meet
                        case rel => exact ⟨_, (true), (by first | rfl | (simp; done) | (simp [*]; done)), H', ⟨by have := HJ6.out; have := HJ10.out; have := HJ12.out; have := HJ19.out; first | omega | exact Nat.le_refl _⟩, ⟨by repeat (first | (with_reducible first | exact HB.out | apply below_alloc | apply pw_below_drewN | apply below_drew1) | exact HB.out)⟩⟩
                    · replace c27 := Bool.eq_false_iff.mpr c27
                      subst c27
                      have H1 : (if t209 = 2 then (if t208.toList = ([] : List UInt8) then ((demurrallaw05_alive.f).bind fun t215 => (demurrallaw05_StreamTexts.j4 kj19 t206 t207 x3_12 t210 t211 (!t215))) else (demurrallaw05_StreamTexts.j4 kj19 t206 t207 x3_12 t210 t211 true)) else (demurrallaw05_StreamTexts.j4 kj19 t206 t207 x3_12 t210 t211 true)) = some r := by rw [if_neg (show ¬ (false = true) by decide)] at H; exact H
                      clear H
                      have H := H1
                      clear H1
                      by_cases c35 : t209 = 2
                      · rw [if_pos c35] at H
                        have c35b0 : (t209 == 2) = true := beq_iff_eq.mpr c35
                        have c35b1 : (t209 != 2) = false := bne_eq_false_iff_eq.mpr c35
                        clear c35
                        by_cases c36 : t208.toList = ([] : List UInt8)
                        · rw [if_pos c36] at H
                          have c36b0 : (t208.toList == ([] : List UInt8)) = true := beq_iff_eq.mpr c36
                          have c36b1 : (t208.toList != ([] : List UInt8)) = false := bne_eq_false_iff_eq.mpr c36
                          clear c36
                          replace H := Option.bind_eq_some_iff.mp H
                          obtain ⟨t215, A370, H⟩ := H
                          replace H : (demurrallaw05_StreamTexts.j4 kj19 t206 t207 x3_12 t210 t211 (!t215)) = some r := H
                          have A37 := Aside0.mk A370
                          clear A370
                          have H' := Aside0.mk H
                          clear H
                          go_wp2_with (first | (go_at_call 10; (with_reducible refine (demurrallaw05_alive.calls  t215 _ A37.out).mono ?_); rintro e w38 ⟨rfl, hb⟩; have n0_ := Aside0.mk (below_step (by repeat (first | (with_reducible first | exact HB.out | apply below_alloc | apply pw_below_drewN | apply below_drew1) | exact HB.out)) hb); clear HB; have HB := n0_; clear n0_; (try clear hb); (try clear hb2); (try clear hk); (try clear hi)))
                          go_meet
                          case rel => exact ⟨_, (!t215), (by first | rfl | (simp; done) | (simp [*]; done)), H', ⟨by have := HJ6.out; have := HJ10.out; have := HJ12.out; have := HJ19.out; first | omega | exact Nat.le_refl _⟩, ⟨by repeat (first | (with_reducible first | exact HB.out | apply below_alloc | apply pw_below_drewN | apply below_drew1) | exact HB.out)⟩⟩
                        · rw [if_neg c36] at H
                          have c36b0 : (t208.toList == ([] : List UInt8)) = false := beq_eq_false_iff_ne.mpr c36
                          have c36b1 : (t208.toList != ([] : List UInt8)) = true := bne_iff_ne.mpr c36
                          have H' := Aside0.mk H
                          clear H
                          go_wp2
                          go_meet
                          case rel => exact ⟨_, (true), (by first | rfl | (simp; done) | (simp [*]; done)), H', ⟨by have := HJ6.out; have := HJ10.out; have := HJ12.out; have := HJ19.out; first | omega | exact Nat.le_refl _⟩, ⟨by repeat (first | (with_reducible first | exact HB.out | apply below_alloc | apply pw_below_drewN | apply below_drew1) | exact HB.out)⟩⟩
                      · rw [if_neg c35] at H
                        have c35b0 : (t209 == 2) = false := beq_eq_false_iff_ne.mpr c35
                        have c35b1 : (t209 != 2) = true := bne_iff_ne.mpr c35
                        have H' := Aside0.mk H
                        clear H
                        go_wp2
                        go_meet
                        case rel => exact ⟨_, (true), (by first | rfl | (simp; done) | (simp [*]; done)), H', ⟨by have := HJ6.out; have := HJ10.out; have := HJ12.out; have := HJ19.out; first | omega | exact Nat.le_refl _⟩, ⟨by repeat (first | (with_reducible first | exact HB.out | apply below_alloc | apply pw_below_drewN | apply below_drew1) | exact HB.out)⟩⟩
                  case rest =>
                    clear HC26
                    try clear c1
                    try clear c2
                    try clear p2
                    try clear c3
                    try clear c4
                    try clear c6
                    try clear p6
                    try clear c10
                    try clear c10b0
                    try clear c11
                    try clear c12
                    try clear c13
                    try clear c14
                    try clear c14b0
                    try clear c14b1
                    try clear c16
                    try clear c16b0
                    try clear c16b1
                    try clear c17
                    try clear c17b0
                    try clear c17b1
                    try clear c24
                    try clear c25
                    try clear c25b0
                    try clear c27
                    try clear c28
                    try clear c28b0
                    try clear c28b1
                    try clear c30
                    try clear c30b0
                    try clear c30b1
                    try clear c35
                    try clear c35b0
                    try clear c35b1
                    try clear c36
                    try clear c36b0
                    try clear c36b1
                    try clear p2
                    try clear p6
                    obtain ⟨kq, x88_25, rfl, HA, HJ25, HB⟩ := hcut
                    cases kq with
                    | zero => exact absurd HA.out (by simp [demurrallaw05_StreamTexts.j4])
                    | succ kj25 =>
                      have H := HA.out
                      clear HA
                      simp only [demurrallaw05_StreamTexts.j4] at H
                      by_cases c39 : x88_25 = true
                      · subst c39
                        have H1 : (some false) = some r := by rw [if_pos rfl] at H; exact H
                        clear H
                        have H := H1
                        clear H1
                        obtain rfl := Option.some.inj H
                        go_wp2
                        go_ret
                        exact ⟨by first | rfl | (simp [errW_none, errW_some] <;> rfl) | (simp [*, errW_none, errW_some] <;> rfl), by repeat (first | (with_reducible first | exact HB.out | apply below_alloc | apply pw_below_drewN | apply below_drew1) | exact HB.out)⟩
                      · replace c39 := Bool.eq_false_iff.mpr c39
                        subst c39
                        have H1 : ((demurralref05_May.f t206 t207).bind fun t216 => (if t216 = true then (if (x3_12.size : Int) > 4096 then (if t211 = 2 then (some (t210.toList == ([] : List UInt8))) else (some false)) else (if t211 = 0 then ((demurralref05_Xor.f kj25 t206 t207 x3_12).bind fun t217 => (some (t210.toList == t217.toList))) else (some false))) else (if t211 = 2 then (some (t210.toList == ([] : List UInt8))) else (some false)))) = some r := by rw [if_neg (show ¬ (false = true) by decide)] at H; exact H
                        clear H
                        have H := H1
                        clear H1
                        replace H := Option.bind_eq_some_iff.mp H
                        obtain ⟨t216, A400, H⟩ := H
                        replace H : (if t216 = true then (if (x3_12.size : Int) > 4096 then (if t211 = 2 then (some (t210.toList == ([] : List UInt8))) else (some false)) else (if t211 = 0 then ((demurralref05_Xor.f kj25 t206 t207 x3_12).bind fun t217 => (some (t210.toList == t217.toList))) else (some false))) else (if t211 = 2 then (some (t210.toList == ([] : List UInt8))) else (some false))) = some r := H
                        have A40 := Aside0.mk A400
                        clear A400
                        by_cases c41 : t216 = true
                        · subst c41
                          have H1 : (if (x3_12.size : Int) > 4096 then (if t211 = 2 then (some (t210.toList == ([] : List UInt8))) else (some false)) else (if t211 = 0 then ((demurralref05_Xor.f kj25 t206 t207 x3_12).bind fun t217 => (some (t210.toList == t217.toList))) else (some false))) = some r := by rw [if_pos rfl] at H; exact H
                          clear H
                          have H := H1
                          clear H1
                          by_cases c42 : (x3_12.size : Int) > 4096
                          · rw [if_pos c42] at H
                            have c42b0 : decide (4096 < (x3_12.size : Int)) = true := decide_eq_true c42
                            have c42b1 : decide (4096 < x3_12.size) = true := decide_eq_true (by omega)
                            clear c42
                            by_cases c43 : t211 = 2
                            · rw [if_pos c43] at H
                              have c43b0 : (t211 == 2) = true := beq_iff_eq.mpr c43
                              have c43b1 : (t211 != 2) = false := bne_eq_false_iff_eq.mpr c43
                              clear c43
                              obtain rfl := Option.some.inj H
                              go_wp2_with (first | ((with_reducible refine gate_callee (f := 11) rfl ?_); refine goesL_ (some 91) rfl rfl Try.func11 (by kernel_rfl) rfl #[.string t206, .string t207] rfl (by (try simp only [List.map_toArray, List.map_cons, List.map_nil]); first | done | rfl | (simp only [List.length_drop, List.length_take]; rfl)) ?_; (with_reducible refine (demurralref05_May.calls t206 t207 true _ A40.out).mono ?_); rintro e w' ⟨rfl, ⟨nd, rfl⟩⟩; refine ⟨_, rfl, ?_⟩))
                              go_ret
                              exact ⟨by first | rfl | (simp [errW_none, errW_some] <;> rfl) | (simp [*, errW_none, errW_some] <;> rfl), by repeat (first | (with_reducible first | exact HB.out | apply below_alloc | apply pw_below_drewN | apply below_drew1) | exact HB.out)⟩
                            · rw [if_neg c43] at H
                              have c43b0 : (t211 == 2) = false := beq_eq_false_iff_ne.mpr c43
                              have c43b1 : (t211 != 2) = true := bne_iff_ne.mpr c43
                              obtain rfl := Option.some.inj H
                              go_wp2_with (first | ((with_reducible refine gate_callee (f := 11) rfl ?_); refine goesL_ (some 91) rfl rfl Try.func11 (by kernel_rfl) rfl #[.string t206, .string t207] rfl (by (try simp only [List.map_toArray, List.map_cons, List.map_nil]); first | done | rfl | (simp only [List.length_drop, List.length_take]; rfl)) ?_; (with_reducible refine (demurralref05_May.calls t206 t207 true _ A40.out).mono ?_); rintro e w' ⟨rfl, ⟨nd, rfl⟩⟩; refine ⟨_, rfl, ?_⟩))
                              go_ret
                              exact ⟨by first | rfl | (simp [errW_none, errW_some] <;> rfl) | (simp [*, errW_none, errW_some] <;> rfl), by repeat (first | (with_reducible first | exact HB.out | apply below_alloc | apply pw_below_drewN | apply below_drew1) | exact HB.out)⟩
                          · rw [if_neg c42] at H
                            have c42b0 : decide (4096 < (x3_12.size : Int)) = false := decide_eq_false c42
                            have c42b1 : decide (4096 < x3_12.size) = false := decide_eq_false (by omega)
                            clear c42
                            by_cases c44 : t211 = 0
                            · rw [if_pos c44] at H
                              have c44b0 : (t211 == 0) = true := beq_iff_eq.mpr c44
                              have c44b1 : (t211 != 0) = false := bne_eq_false_iff_eq.mpr c44
                              clear c44
                              replace H := Option.bind_eq_some_iff.mp H
                              obtain ⟨t217, A450, H⟩ := H
                              replace H : (some (t210.toList == t217.toList)) = some r := H
                              have A45 := Aside0.mk A450
                              clear A450
                              obtain rfl := Option.some.inj H
                              go_wp2_with (first | ((with_reducible refine gate_callee (f := 11) rfl ?_); refine goesL_ (some 91) rfl rfl Try.func11 (by kernel_rfl) rfl #[.string t206, .string t207] rfl (by (try simp only [List.map_toArray, List.map_cons, List.map_nil]); first | done | rfl | (simp only [List.length_drop, List.length_take]; rfl)) ?_; (with_reducible refine (demurralref05_May.calls t206 t207 true _ A40.out).mono ?_); rintro e w' ⟨rfl, ⟨nd, rfl⟩⟩; refine ⟨_, rfl, ?_⟩) | (go_at_call 16; (with_reducible refine (demurralref05_Xor.calls kj25 t206 t207 x3_12 t217 _ A45.out).mono ?_); rintro e w46 ⟨rfl, hb⟩; have n0_ := Aside0.mk (below_step (by repeat (first | (with_reducible first | exact HB.out | apply below_alloc | apply pw_below_drewN | apply below_drew1) | exact HB.out)) hb); clear HB; have HB := n0_; clear n0_; (try clear hb); (try clear hb2); (try clear hk); (try clear hi)))
                              go_ret
                              exact ⟨by first | rfl | (simp [errW_none, errW_some] <;> rfl) | (simp [*, errW_none, errW_some] <;> rfl), by repeat (first | (with_reducible first | exact HB.out | apply below_alloc | apply pw_below_drewN | apply below_drew1) | exact HB.out)⟩
                            · rw [if_neg c44] at H
                              have c44b0 : (t211 == 0) = false := beq_eq_false_iff_ne.mpr c44
                              have c44b1 : (t211 != 0) = true := bne_iff_ne.mpr c44
                              obtain rfl := Option.some.inj H
                              go_wp2_with (first | ((with_reducible refine gate_callee (f := 11) rfl ?_); refine goesL_ (some 91) rfl rfl Try.func11 (by kernel_rfl) rfl #[.string t206, .string t207] rfl (by (try simp only [List.map_toArray, List.map_cons, List.map_nil]); first | done | rfl | (simp only [List.length_drop, List.length_take]; rfl)) ?_; (with_reducible refine (demurralref05_May.calls t206 t207 true _ A40.out).mono ?_); rintro e w' ⟨rfl, ⟨nd, rfl⟩⟩; refine ⟨_, rfl, ?_⟩))
                              go_ret
                              exact ⟨by first | rfl | (simp [errW_none, errW_some] <;> rfl) | (simp [*, errW_none, errW_some] <;> rfl), by repeat (first | (with_reducible first | exact HB.out | apply below_alloc | apply pw_below_drewN | apply below_drew1) | exact HB.out)⟩
                        · replace c41 := Bool.eq_false_iff.mpr c41
                          subst c41
                          have H1 : (if t211 = 2 then (some (t210.toList == ([] : List UInt8))) else (some false)) = some r := by rw [if_neg (show ¬ (false = true) by decide)] at H; exact H
                          clear H
                          have H := H1
                          clear H1
                          by_cases c47 : t211 = 2
                          · rw [if_pos c47] at H
                            have c47b0 : (t211 == 2) = true := beq_iff_eq.mpr c47
                            have c47b1 : (t211 != 2) = false := bne_eq_false_iff_eq.mpr c47
                            clear c47
                            obtain rfl := Option.some.inj H
                            go_wp2_with (first | ((with_reducible refine gate_callee (f := 11) rfl ?_); refine goesL_ (some 91) rfl rfl Try.func11 (by kernel_rfl) rfl #[.string t206, .string t207] rfl (by (try simp only [List.map_toArray, List.map_cons, List.map_nil]); first | done | rfl | (simp only [List.length_drop, List.length_take]; rfl)) ?_; (with_reducible refine (demurralref05_May.calls t206 t207 false _ A40.out).mono ?_); rintro e w' ⟨rfl, ⟨nd, rfl⟩⟩; refine ⟨_, rfl, ?_⟩))
                            go_ret
                            exact ⟨by first | rfl | (simp [errW_none, errW_some] <;> rfl) | (simp [*, errW_none, errW_some] <;> rfl), by repeat (first | (with_reducible first | exact HB.out | apply below_alloc | apply pw_below_drewN | apply below_drew1) | exact HB.out)⟩
                          · rw [if_neg c47] at H
                            have c47b0 : (t211 == 2) = false := beq_eq_false_iff_ne.mpr c47
                            have c47b1 : (t211 != 2) = true := bne_iff_ne.mpr c47
                            obtain rfl := Option.some.inj H
                            go_wp2_with (first | ((with_reducible refine gate_callee (f := 11) rfl ?_); refine goesL_ (some 91) rfl rfl Try.func11 (by kernel_rfl) rfl #[.string t206, .string t207] rfl (by (try simp only [List.map_toArray, List.map_cons, List.map_nil]); first | done | rfl | (simp only [List.length_drop, List.length_take]; rfl)) ?_; (with_reducible refine (demurralref05_May.calls t206 t207 false _ A40.out).mono ?_); rintro e w' ⟨rfl, ⟨nd, rfl⟩⟩; refine ⟨_, rfl, ?_⟩))
                            go_ret
                            exact ⟨by first | rfl | (simp [errW_none, errW_some] <;> rfl) | (simp [*, errW_none, errW_some] <;> rfl), by repeat (first | (with_reducible first | exact HB.out | apply below_alloc | apply pw_below_drewN | apply below_drew1) | exact HB.out)⟩

/-- THE ONE PURE STATEMENT of demurrallaw05_StreamTexts: yours. -/
def demurrallaw05_StreamTexts.Pure : Prop := ∀ (a0 : ByteArray) (a1 : ByteArray) (a2 : Int) (a3 : ByteArray), a0.size ≤ 140737488351232 → a1.size ≤ 140737488351232 → (Lit.int .i64 a2).wf = true → a3.size ≤ 140737488351232 → ∃ k, demurrallaw05_StreamTexts.f k a0 a1 a2 a3 = some true
theorem demurrallaw05_StreamTexts.walk (P : demurrallaw05_StreamTexts.Pure) (a0 : ByteArray) (a1 : ByteArray) (a2 : Int) (a3 : ByteArray) (w : World) (w0 : a0.size ≤ 140737488351232) (w1 : a1.size ≤ 140737488351232) (w2 : (Lit.int .i64 a2).wf = true) (w3 : a3.size ≤ 140737488351232) :
    Calls Try.prog 4 #[.string a0, .string a1, .int .i64 a2, .string a3] w fun e w' => e = .returned (.bool true) ∧ Below w.heap.size w w' := by
  obtain ⟨k, h⟩ := P a0 a1 a2 a3 w0 w1 w2 w3
  refine (demurrallaw05_StreamTexts.calls k a0 a1 a2 a3 true w h).mono ?_
  rintro e w' ⟨rfl, hd⟩
  exact ⟨rfl, hd⟩

end Go.Proofs.Ytioafoilinhmjaa.Q
