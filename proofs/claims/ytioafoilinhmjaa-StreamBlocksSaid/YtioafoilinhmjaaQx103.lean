-- PRINTED by print.py (a twelfth state) out of the translation. Not trusted: Lean checks it.
import Derived.Test.YtioafoilinhmjaaQx0
import Derived.Test.YtioafoilinhmjaaQx106
import Derived.Test.YtioafoilinhmjaaQx108
import Derived.Test.YtioafoilinhmjaaQx110
import Derived.Test.YtioafoilinhmjaaQx111
import Derived.Test.YtioafoilinhmjaaQx112
import Derived.Test.YtioafoilinhmjaaQx1030
import Derived.Test.YtioafoilinhmjaaHQuarter
import Derived.Test.YtioafoilinhmjaaHRefQuarter
namespace Go.Proofs.Ytioafoilinhmjaa.Q
open Go.RowKit Go.Proofs.YtioafoilinhmjaaW.PrintWords Go.Proofs.YtioafoilinhmjaaW.PrintLast Go.Proofs.YtioafoilinhmjaaW.PrintMore
attribute [local go_sem] max2_int min2_int max_two min_two max_three min_three max_four min_four   -- for this text's walks alone
set_option linter.unusedVariables false
set_option linter.unusedSimpArgs false

attribute [local go_sem high] eqA30
/-! ### demurrallaw05_StreamBlocks: function 3 -/
def demurrallaw05_StreamBlocks.j0 : Nat → ByteArray → Int → ByteArray → ByteArray → Int → Bool → Option (Bool)
  | 0, _, _, _, _, _, _ => none
  | k + 1, x4, x5, x6, x19, x20, x57 => if x57 = true then (some false) else ((demurralref05_May.f x4 x6).bind fun t196 => (if t196 = true then (if x20 = 0 then ((demurralref05_Block.f k x4 x5 x6).bind fun t197 => (some (x19.toList == t197.toList))) else (some false)) else (if x20 = 2 then (some (x19.toList == ([] : List UInt8))) else (some false))))
def demurrallaw05_StreamBlocks.f (k : Nat) (a0 : Int) (a1 : Int) (a2 : Int) (a3 : Int) (a4 : ByteArray) (a5 : Int) (a6 : ByteArray) : Option (Bool) := (demurrallaw05_cut.f a4).bind fun t183 => ((demurrallaw05_cut.f a6).bind fun t184 => ((stream_Quarter.f a0 a1 a2 a3).bind fun bt185 => ((stream_Block.f t183 a5 t184).bind fun bt189 => ((demurralref05_Quarter.f a0 a1 a2 a3).bind fun bt191 => (if (!(bt185.1 == bt191.1) || (!(bt185.2.1 == bt191.2.1) || (!(bt185.2.2.1 == bt191.2.2.1) || (!(bt185.2.2.2 == bt191.2.2.2))))) = true then (demurrallaw05_StreamBlocks.j0 k t183 a5 t184 bt189.1 bt189.2 true) else ((demurrallaw05_alive.f).bind fun t195 => (demurrallaw05_StreamBlocks.j0 k t183 a5 t184 bt189.1 bt189.2 (!t195))))))))
theorem demurrallaw05_StreamBlocks.mono_l : ∀ k, (∀ y0 y1 y2 y3 y4 y5, LeO (demurrallaw05_StreamBlocks.j0 k y0 y1 y2 y3 y4 y5) (demurrallaw05_StreamBlocks.j0 (k + 1) y0 y1 y2 y3 y4 y5))
  | 0 => fun _ _ _ _ _ _ r h => by simp [demurrallaw05_StreamBlocks.j0] at h
  | k + 1 => by
    have ih0 := demurrallaw05_StreamBlocks.mono_l k
    · intro y0 y1 y2 y3 y4 y5
      unfold demurrallaw05_StreamBlocks.j0
      repeat' first
      | (with_reducible exact ih0 _ _ _ _ _ _)
      | (with_reducible exact demurralref05_Block.mono _ _ _ _)
      | (with_reducible exact LeO.refl _)
      | (with_reducible exact LeO.none _)
      | (with_reducible refine LeO.ite ?_ ?_)
      | (with_reducible refine LeO.bind ?_ (fun _ => ?_))
      | exact ih0 _ _ _ _ _ _
      | exact demurralref05_Block.mono _ _ _ _
      | exact LeO.none _
      | refine LeO.ite ?_ ?_
      | refine LeO.bind ?_ (fun _ => ?_)
theorem demurrallaw05_StreamBlocks.mono : ∀ a0 a1 a2 a3 a4 a5 a6 k, LeO (demurrallaw05_StreamBlocks.f k a0 a1 a2 a3 a4 a5 a6) (demurrallaw05_StreamBlocks.f (k + 1) a0 a1 a2 a3 a4 a5 a6) := by
  intro a0 a1 a2 a3 a4 a5 a6 k
  have ih0 := demurrallaw05_StreamBlocks.mono_l k
  unfold demurrallaw05_StreamBlocks.f
  repeat' first
      | (with_reducible exact ih0 _ _ _ _ _ _)
      | (with_reducible exact demurralref05_Block.mono _ _ _ _)
      | (with_reducible exact LeO.refl _)
      | (with_reducible exact LeO.none _)
      | (with_reducible refine LeO.ite ?_ ?_)
      | (with_reducible refine LeO.bind ?_ (fun _ => ?_))
      | exact ih0 _ _ _ _ _ _
      | exact demurralref05_Block.mono _ _ _ _
      | exact LeO.none _
      | refine LeO.ite ?_ ?_
      | refine LeO.bind ?_ (fun _ => ?_)
set_option maxHeartbeats 8000000 in
set_option maxRecDepth 100000 in
theorem demurrallaw05_StreamBlocks.calls (k : Nat) (a0 : Int) (a1 : Int) (a2 : Int) (a3 : Int) (a4 : ByteArray) (a5 : Int) (a6 : ByteArray) (r : Bool) (w : World) (h : demurrallaw05_StreamBlocks.f k a0 a1 a2 a3 a4 a5 a6 = some r) :
    Calls Try.prog 3 #[.int .u32 a0, .int .u32 a1, .int .u32 a2, .int .u32 a3, .string a4, .int .u32 a5, .string a6] w fun e w' => e = .returned (.bool r) ∧ Below w.heap.size w w' := by
  have hu30 := Try.underlying30
  have HB := Aside0.mk (Below.refl w.heap.size w)
  have H : ((demurrallaw05_cut.f a4).bind fun t183 => ((demurrallaw05_cut.f a6).bind fun t184 => ((stream_Quarter.f a0 a1 a2 a3).bind fun bt185 => ((stream_Block.f t183 a5 t184).bind fun bt189 => ((demurralref05_Quarter.f a0 a1 a2 a3).bind fun bt191 => (if (!(bt185.1 == bt191.1) || (!(bt185.2.1 == bt191.2.1) || (!(bt185.2.2.1 == bt191.2.2.1) || (!(bt185.2.2.2 == bt191.2.2.2))))) = true then (demurrallaw05_StreamBlocks.j0 k t183 a5 t184 bt189.1 bt189.2 true) else ((demurrallaw05_alive.f).bind fun t195 => (demurrallaw05_StreamBlocks.j0 k t183 a5 t184 bt189.1 bt189.2 (!t195))))))))) = some r := h
  clear h
  replace H := Option.bind_eq_some_iff.mp H
  obtain ⟨t183, A80, H⟩ := H
  replace H : ((demurrallaw05_cut.f a6).bind fun t184 => ((stream_Quarter.f a0 a1 a2 a3).bind fun bt185 => ((stream_Block.f t183 a5 t184).bind fun bt189 => ((demurralref05_Quarter.f a0 a1 a2 a3).bind fun bt191 => (if (!(bt185.1 == bt191.1) || (!(bt185.2.1 == bt191.2.1) || (!(bt185.2.2.1 == bt191.2.2.1) || (!(bt185.2.2.2 == bt191.2.2.2))))) = true then (demurrallaw05_StreamBlocks.j0 k t183 a5 t184 bt189.1 bt189.2 true) else ((demurrallaw05_alive.f).bind fun t195 => (demurrallaw05_StreamBlocks.j0 k t183 a5 t184 bt189.1 bt189.2 (!t195)))))))) = some r := H
  have A8 := Aside0.mk A80
  clear A80
  replace H := Option.bind_eq_some_iff.mp H
  obtain ⟨t184, A90, H⟩ := H
  replace H : ((stream_Quarter.f a0 a1 a2 a3).bind fun bt185 => ((stream_Block.f t183 a5 t184).bind fun bt189 => ((demurralref05_Quarter.f a0 a1 a2 a3).bind fun bt191 => (if (!(bt185.1 == bt191.1) || (!(bt185.2.1 == bt191.2.1) || (!(bt185.2.2.1 == bt191.2.2.1) || (!(bt185.2.2.2 == bt191.2.2.2))))) = true then (demurrallaw05_StreamBlocks.j0 k t183 a5 t184 bt189.1 bt189.2 true) else ((demurrallaw05_alive.f).bind fun t195 => (demurrallaw05_StreamBlocks.j0 k t183 a5 t184 bt189.1 bt189.2 (!t195))))))) = some r := H
  have A9 := Aside0.mk A90
  clear A90
  replace H := Option.bind_eq_some_iff.mp H
  obtain ⟨⟨t185, t186, t187, t188⟩, A100, H⟩ := H
  replace H : ((stream_Block.f t183 a5 t184).bind fun bt189 => ((demurralref05_Quarter.f a0 a1 a2 a3).bind fun bt191 => (if (!(t185 == bt191.1) || (!(t186 == bt191.2.1) || (!(t187 == bt191.2.2.1) || (!(t188 == bt191.2.2.2))))) = true then (demurrallaw05_StreamBlocks.j0 k t183 a5 t184 bt189.1 bt189.2 true) else ((demurrallaw05_alive.f).bind fun t195 => (demurrallaw05_StreamBlocks.j0 k t183 a5 t184 bt189.1 bt189.2 (!t195)))))) = some r := H
  have A10 := Aside0.mk A100
  clear A100
  replace H := Option.bind_eq_some_iff.mp H
  obtain ⟨⟨t189, t190⟩, A110, H⟩ := H
  replace H : ((demurralref05_Quarter.f a0 a1 a2 a3).bind fun bt191 => (if (!(t185 == bt191.1) || (!(t186 == bt191.2.1) || (!(t187 == bt191.2.2.1) || (!(t188 == bt191.2.2.2))))) = true then (demurrallaw05_StreamBlocks.j0 k t183 a5 t184 t189 t190 true) else ((demurrallaw05_alive.f).bind fun t195 => (demurrallaw05_StreamBlocks.j0 k t183 a5 t184 t189 t190 (!t195))))) = some r := H
  have A11 := Aside0.mk A110
  clear A110
  have HC12 := Aside0.mk H
  clear H
  go_enter Try.func3, Try.ntmps3
  go_upto_region 4 with (first | ((with_reducible refine gate_callee (f := 6) rfl ?_); refine goesL_ (some 22) rfl rfl Try.func6 (by kernel_rfl) rfl #[.string a4] rfl (by (try simp only [List.map_toArray, List.map_cons, List.map_nil]); first | done | rfl | (simp only [List.length_drop, List.length_take]; rfl)) ?_; (with_reducible refine (demurrallaw05_cut.calls a4 t183 _ A8.out).mono ?_); rintro e w13 ⟨rfl, hb⟩; refine ⟨_, rfl, ?_⟩; have n0_ := Aside0.mk (below_step (by repeat (first | (with_reducible first | exact HB.out | apply below_alloc | apply pw_below_drewN | apply below_drew1) | exact HB.out)) hb); clear HB; have HB := n0_; clear n0_; (try clear hb); (try clear hb2); (try clear hk); (try clear hi)) | ((with_reducible refine gate_callee (f := 6) rfl ?_); refine goesL_ (some 24) rfl rfl Try.func6 (by kernel_rfl) rfl #[.string a6] rfl (by (try simp only [List.map_toArray, List.map_cons, List.map_nil]); first | done | rfl | (simp only [List.length_drop, List.length_take]; rfl)) ?_; (with_reducible refine (demurrallaw05_cut.calls a6 t184 _ A9.out).mono ?_); rintro e w14 ⟨rfl, hb⟩; refine ⟨_, rfl, ?_⟩; have n0_ := Aside0.mk (below_step (by repeat (first | (with_reducible first | exact HB.out | apply below_alloc | apply pw_below_drewN | apply below_drew1) | exact HB.out)) hb); clear HB; have HB := n0_; clear n0_; (try clear hb); (try clear hb2); (try clear hk); (try clear hi)) | ((with_reducible refine gate_callee (f := 7) rfl ?_); refine goesL_ (some 30) rfl rfl Try.func7 (by kernel_rfl) rfl #[.int .u32 a0, .int .u32 a1, .int .u32 a2, .int .u32 a3] rfl (by (try simp only [List.map_toArray, List.map_cons, List.map_nil]); first | done | rfl | (simp only [List.length_drop, List.length_take]; rfl)) ?_; (with_reducible refine (stream_Quarter.calls a0 a1 a2 a3 t185 t186 t187 t188 _ A10.out).mono ?_); rintro e w15 ⟨rfl, hb⟩; refine ⟨_, rfl, ?_⟩; have n0_ := Aside0.mk (below_step (by repeat (first | (with_reducible first | exact HB.out | apply below_alloc | apply pw_below_drewN | apply below_drew1) | exact HB.out)) hb); clear HB; have HB := n0_; clear n0_; (try clear hb); (try clear hb2); (try clear hk); (try clear hi)) | ((with_reducible refine gate_callee (f := 8) rfl ?_); refine goesL_ (some 39) rfl rfl Try.func8 (by kernel_rfl) rfl #[.string t183, .int .u32 a5, .string t184] rfl (by (try simp only [List.map_toArray, List.map_cons, List.map_nil]); first | done | rfl | (simp only [List.length_drop, List.length_take]; rfl)) ?_; (with_reducible refine (stream_Block.calls t183 a5 t184 t189 t190 _ A11.out).mono ?_); rintro e w16 ⟨rfl, hb⟩; refine ⟨_, rfl, ?_⟩; have n0_ := Aside0.mk (below_step (by repeat (first | (with_reducible first | exact HB.out | apply below_alloc | apply pw_below_drewN | apply below_drew1) | exact HB.out)) hb); clear HB; have HB := n0_; clear n0_; (try clear hb); (try clear hb2); (try clear hk); (try clear hi)))
  (try simp only [Act.put, List.setIfInBounds_toArray, List.set_cons_zero, List.set_cons_succ])
  go_cut [57] (fun v57 wc => ∃ (kq : Nat) (x57_11 : Bool), v57 = .bool x57_11 ∧ Aside0 (demurrallaw05_StreamBlocks.j0 kq t183 a5 t184 t189 t190 x57_11 = some r) ∧ Aside0 (kq ≤ k) ∧ Aside0 (Below w.heap.size w wc))
  case first =>
    have H := HC12.out
    clear HC12
    replace H := Option.bind_eq_some_iff.mp H
    obtain ⟨⟨t191, t192, t193, t194⟩, A170, H⟩ := H
    replace H : (if (!(t185 == t191) || (!(t186 == t192) || (!(t187 == t193) || (!(t188 == t194))))) = true then (demurrallaw05_StreamBlocks.j0 k t183 a5 t184 t189 t190 true) else ((demurrallaw05_alive.f).bind fun t195 => (demurrallaw05_StreamBlocks.j0 k t183 a5 t184 t189 t190 (!t195)))) = some r := H
    have A17 := Aside0.mk A170
    clear A170
    by_cases c18 : (!(t185 == t191) || (!(t186 == t192) || (!(t187 == t193) || (!(t188 == t194))))) = true
    · rw [if_pos c18] at H
      have c18b0 : (!(t185 == t191) || (!(t186 == t192) || (!(t187 == t193) || (!(t188 == t194))))) = true := c18
      clear c18
      (first | rw [c18b0] | (simp only [i64_w, i32_w]; rw [c18b0]) | skip)
      have H' := Aside0.mk H
      clear H
      go_wp2_with (first | ((with_reducible refine gate_callee (f := 9) rfl ?_); refine goesL_ (some 52) rfl rfl Try.func9 (by kernel_rfl) rfl #[.agg #[.int .u32 a0, .int .u32 a1, .int .u32 a2, .int .u32 a3]] rfl (by (try simp only [List.map_toArray, List.map_cons, List.map_nil]); first | done | rfl | (simp only [List.length_drop, List.length_take]; rfl)) ?_; (with_reducible refine (demurralref05_Quarter.calls a0 a1 a2 a3 t191 t192 t193 t194 _ A17.out).mono ?_); rintro e w19 ⟨rfl, hb⟩; refine ⟨_, rfl, ?_⟩; have n0_ := Aside0.mk (below_step (by repeat (first | (with_reducible first | exact HB.out | apply below_alloc | apply pw_below_drewN | apply below_drew1) | exact HB.out)) hb); clear HB; have HB := n0_; clear n0_; (try clear hb); (try clear hb2); (try clear hk); (try clear hi)))
      go_meet
      case rel => exact ⟨_, (true), (by first | rfl | (simp; done) | (simp [*]; done)), H', ⟨by first | omega | exact Nat.le_refl _⟩, ⟨by repeat (first | (with_reducible first | exact HB.out | apply below_alloc | apply pw_below_drewN | apply below_drew1) | exact HB.out)⟩⟩
    · rw [if_neg c18] at H
      have c18b0 : (!(t185 == t191) || (!(t186 == t192) || (!(t187 == t193) || (!(t188 == t194))))) = false := by simpa using c18
      clear c18
      (first | rw [c18b0] | (simp only [i64_w, i32_w]; rw [c18b0]) | skip)
      replace H := Option.bind_eq_some_iff.mp H
      obtain ⟨t195, A200, H⟩ := H
      replace H : (demurrallaw05_StreamBlocks.j0 k t183 a5 t184 t189 t190 (!t195)) = some r := H
      have A20 := Aside0.mk A200
      clear A200
      have H' := Aside0.mk H
      clear H
      go_wp2_with (first | ((with_reducible refine gate_callee (f := 9) rfl ?_); refine goesL_ (some 52) rfl rfl Try.func9 (by kernel_rfl) rfl #[.agg #[.int .u32 a0, .int .u32 a1, .int .u32 a2, .int .u32 a3]] rfl (by (try simp only [List.map_toArray, List.map_cons, List.map_nil]); first | done | rfl | (simp only [List.length_drop, List.length_take]; rfl)) ?_; (with_reducible refine (demurralref05_Quarter.calls a0 a1 a2 a3 t191 t192 t193 t194 _ A17.out).mono ?_); rintro e w21 ⟨rfl, hb⟩; refine ⟨_, rfl, ?_⟩; have n0_ := Aside0.mk (below_step (by repeat (first | (with_reducible first | exact HB.out | apply below_alloc | apply pw_below_drewN | apply below_drew1) | exact HB.out)) hb); clear HB; have HB := n0_; clear n0_; (try clear hb); (try clear hb2); (try clear hk); (try clear hi)) | (go_at_call 10; (with_reducible refine (demurrallaw05_alive.calls  t195 _ A20.out).mono ?_); rintro e w22 ⟨rfl, hb⟩; have n0_ := Aside0.mk (below_step (by repeat (first | (with_reducible first | exact HB.out | apply below_alloc | apply pw_below_drewN | apply below_drew1) | exact HB.out)) hb); clear HB; have HB := n0_; clear n0_; (try clear hb); (try clear hb2); (try clear hk); (try clear hi)))
      go_meet
      case rel => exact ⟨_, (!t195), (by first | rfl | (simp; done) | (simp [*]; done)), H', ⟨by first | omega | exact Nat.le_refl _⟩, ⟨by repeat (first | (with_reducible first | exact HB.out | apply below_alloc | apply pw_below_drewN | apply below_drew1) | exact HB.out)⟩⟩
  case rest =>
    clear HC12
    try clear c1
    try clear p2
    try clear c3
    try clear c6
    try clear c7
    try clear c8
    try clear c9
    try clear c18
    try clear c18b0
    obtain ⟨kq, x57_11, rfl, HA, HJ11, HB⟩ := hcut
    cases kq with
    | zero => exact absurd HA.out (by simp [demurrallaw05_StreamBlocks.j0])
    | succ kj11 =>
      have H := HA.out
      clear HA
      simp only [demurrallaw05_StreamBlocks.j0] at H
      by_cases c23 : x57_11 = true
      · subst c23
        have H1 : (some false) = some r := by rw [if_pos rfl] at H; exact H
        clear H
        have H := H1
        clear H1
        obtain rfl := Option.some.inj H
        go_wp2
        go_ret
        exact ⟨by first | rfl | (simp [errW_none, errW_some] <;> rfl) | (simp [*, errW_none, errW_some] <;> rfl), by repeat (first | (with_reducible first | exact HB.out | apply below_alloc | apply pw_below_drewN | apply below_drew1) | exact HB.out)⟩
      · replace c23 := Bool.eq_false_iff.mpr c23
        subst c23
        have H1 : ((demurralref05_May.f t183 t184).bind fun t196 => (if t196 = true then (if t190 = 0 then ((demurralref05_Block.f kj11 t183 a5 t184).bind fun t197 => (some (t189.toList == t197.toList))) else (some false)) else (if t190 = 2 then (some (t189.toList == ([] : List UInt8))) else (some false)))) = some r := by rw [if_neg (show ¬ (false = true) by decide)] at H; exact H
        clear H
        have H := H1
        clear H1
        replace H := Option.bind_eq_some_iff.mp H
        obtain ⟨t196, A240, H⟩ := H
        replace H : (if t196 = true then (if t190 = 0 then ((demurralref05_Block.f kj11 t183 a5 t184).bind fun t197 => (some (t189.toList == t197.toList))) else (some false)) else (if t190 = 2 then (some (t189.toList == ([] : List UInt8))) else (some false))) = some r := H
        have A24 := Aside0.mk A240
        clear A240
        by_cases c25 : t196 = true
        · subst c25
          have H1 : (if t190 = 0 then ((demurralref05_Block.f kj11 t183 a5 t184).bind fun t197 => (some (t189.toList == t197.toList))) else (some false)) = some r := by rw [if_pos rfl] at H; exact H
          clear H
          have H := H1
          clear H1
          by_cases c26 : t190 = 0
          · rw [if_pos c26] at H
            have c26b0 : (t190 == 0) = true := beq_iff_eq.mpr c26
            have c26b1 : (t190 != 0) = false := bne_eq_false_iff_eq.mpr c26
            clear c26
            replace H := Option.bind_eq_some_iff.mp H
            obtain ⟨t197, A270, H⟩ := H
            replace H : (some (t189.toList == t197.toList)) = some r := H
            have A27 := Aside0.mk A270
            clear A270
            obtain rfl := Option.some.inj H
            go_wp2_with (first | ((with_reducible refine gate_callee (f := 11) rfl ?_); refine goesL_ (some 60) rfl rfl Try.func11 (by kernel_rfl) rfl #[.string t183, .string t184] rfl (by (try simp only [List.map_toArray, List.map_cons, List.map_nil]); first | done | rfl | (simp only [List.length_drop, List.length_take]; rfl)) ?_; (with_reducible refine (demurralref05_May.calls t183 t184 true _ A24.out).mono ?_); rintro e w' ⟨rfl, ⟨nd, rfl⟩⟩; refine ⟨_, rfl, ?_⟩) | (go_at_call 12; (with_reducible refine (demurralref05_Block.calls kj11 t183 a5 t184 t197 _ A27.out).mono ?_); rintro e w28 ⟨rfl, hb⟩; have n0_ := Aside0.mk (below_step (by repeat (first | (with_reducible first | exact HB.out | apply below_alloc | apply pw_below_drewN | apply below_drew1) | exact HB.out)) hb); clear HB; have HB := n0_; clear n0_; (try clear hb); (try clear hb2); (try clear hk); (try clear hi)))
            go_ret
            exact ⟨by first | rfl | (simp [errW_none, errW_some] <;> rfl) | (simp [*, errW_none, errW_some] <;> rfl), by repeat (first | (with_reducible first | exact HB.out | apply below_alloc | apply pw_below_drewN | apply below_drew1) | exact HB.out)⟩
          · rw [if_neg c26] at H
            have c26b0 : (t190 == 0) = false := beq_eq_false_iff_ne.mpr c26
            have c26b1 : (t190 != 0) = true := bne_iff_ne.mpr c26
            obtain rfl := Option.some.inj H
            go_wp2_with (first | ((with_reducible refine gate_callee (f := 11) rfl ?_); refine goesL_ (some 60) rfl rfl Try.func11 (by kernel_rfl) rfl #[.string t183, .string t184] rfl (by (try simp only [List.map_toArray, List.map_cons, List.map_nil]); first | done | rfl | (simp only [List.length_drop, List.length_take]; rfl)) ?_; (with_reducible refine (demurralref05_May.calls t183 t184 true _ A24.out).mono ?_); rintro e w' ⟨rfl, ⟨nd, rfl⟩⟩; refine ⟨_, rfl, ?_⟩))
            go_ret
            exact ⟨by first | rfl | (simp [errW_none, errW_some] <;> rfl) | (simp [*, errW_none, errW_some] <;> rfl), by repeat (first | (with_reducible first | exact HB.out | apply below_alloc | apply pw_below_drewN | apply below_drew1) | exact HB.out)⟩
        · replace c25 := Bool.eq_false_iff.mpr c25
          subst c25
          have H1 : (if t190 = 2 then (some (t189.toList == ([] : List UInt8))) else (some false)) = some r := by rw [if_neg (show ¬ (false = true) by decide)] at H; exact H
          clear H
          have H := H1
          clear H1
          by_cases c29 : t190 = 2
          · rw [if_pos c29] at H
            have c29b0 : (t190 == 2) = true := beq_iff_eq.mpr c29
            have c29b1 : (t190 != 2) = false := bne_eq_false_iff_eq.mpr c29
            clear c29
            obtain rfl := Option.some.inj H
            go_wp2_with (first | ((with_reducible refine gate_callee (f := 11) rfl ?_); refine goesL_ (some 60) rfl rfl Try.func11 (by kernel_rfl) rfl #[.string t183, .string t184] rfl (by (try simp only [List.map_toArray, List.map_cons, List.map_nil]); first | done | rfl | (simp only [List.length_drop, List.length_take]; rfl)) ?_; (with_reducible refine (demurralref05_May.calls t183 t184 false _ A24.out).mono ?_); rintro e w' ⟨rfl, ⟨nd, rfl⟩⟩; refine ⟨_, rfl, ?_⟩))
            go_ret
            exact ⟨by first | rfl | (simp [errW_none, errW_some] <;> rfl) | (simp [*, errW_none, errW_some] <;> rfl), by repeat (first | (with_reducible first | exact HB.out | apply below_alloc | apply pw_below_drewN | apply below_drew1) | exact HB.out)⟩
          · rw [if_neg c29] at H
            have c29b0 : (t190 == 2) = false := beq_eq_false_iff_ne.mpr c29
            have c29b1 : (t190 != 2) = true := bne_iff_ne.mpr c29
            obtain rfl := Option.some.inj H
            go_wp2_with (first | ((with_reducible refine gate_callee (f := 11) rfl ?_); refine goesL_ (some 60) rfl rfl Try.func11 (by kernel_rfl) rfl #[.string t183, .string t184] rfl (by (try simp only [List.map_toArray, List.map_cons, List.map_nil]); first | done | rfl | (simp only [List.length_drop, List.length_take]; rfl)) ?_; (with_reducible refine (demurralref05_May.calls t183 t184 false _ A24.out).mono ?_); rintro e w' ⟨rfl, ⟨nd, rfl⟩⟩; refine ⟨_, rfl, ?_⟩))
            go_ret
            exact ⟨by first | rfl | (simp [errW_none, errW_some] <;> rfl) | (simp [*, errW_none, errW_some] <;> rfl), by repeat (first | (with_reducible first | exact HB.out | apply below_alloc | apply pw_below_drewN | apply below_drew1) | exact HB.out)⟩

/-- THE ONE PURE STATEMENT of demurrallaw05_StreamBlocks: yours. -/
def demurrallaw05_StreamBlocks.Pure : Prop := ∀ (a0 : Int) (a1 : Int) (a2 : Int) (a3 : Int) (a4 : ByteArray) (a5 : Int) (a6 : ByteArray), (Lit.int .u32 a0).wf = true → (Lit.int .u32 a1).wf = true → (Lit.int .u32 a2).wf = true → (Lit.int .u32 a3).wf = true → a4.size ≤ 140737488351232 → (Lit.int .u32 a5).wf = true → a6.size ≤ 140737488351232 → ∃ k, demurrallaw05_StreamBlocks.f k a0 a1 a2 a3 a4 a5 a6 = some true
theorem demurrallaw05_StreamBlocks.walk (P : demurrallaw05_StreamBlocks.Pure) (a0 : Int) (a1 : Int) (a2 : Int) (a3 : Int) (a4 : ByteArray) (a5 : Int) (a6 : ByteArray) (w : World) (w0 : (Lit.int .u32 a0).wf = true) (w1 : (Lit.int .u32 a1).wf = true) (w2 : (Lit.int .u32 a2).wf = true) (w3 : (Lit.int .u32 a3).wf = true) (w4 : a4.size ≤ 140737488351232) (w5 : (Lit.int .u32 a5).wf = true) (w6 : a6.size ≤ 140737488351232) :
    Calls Try.prog 3 #[.int .u32 a0, .int .u32 a1, .int .u32 a2, .int .u32 a3, .string a4, .int .u32 a5, .string a6] w fun e w' => e = .returned (.bool true) ∧ Below w.heap.size w w' := by
  obtain ⟨k, h⟩ := P a0 a1 a2 a3 a4 a5 a6 w0 w1 w2 w3 w4 w5 w6
  refine (demurrallaw05_StreamBlocks.calls k a0 a1 a2 a3 a4 a5 a6 true w h).mono ?_
  rintro e w' ⟨rfl, hd⟩
  exact ⟨rfl, hd⟩

end Go.Proofs.Ytioafoilinhmjaa.Q
