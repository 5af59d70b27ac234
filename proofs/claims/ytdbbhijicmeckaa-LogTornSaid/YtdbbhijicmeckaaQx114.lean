-- PRINTED by print.py (a twelfth state) out of the translation. Not trusted: Lean checks it.
import Derived.Test.YtdbbhijicmeckaaQx0
import Derived.Test.YtdbbhijicmeckaaQx112
import Derived.Test.YtdbbhijicmeckaaQx129
namespace Go.Proofs.Ytdbbhijicmeckaa.Q
open Go.RowKit Go.Proofs.YtdbbhijicmeckaaW.PrintWords Go.Proofs.YtdbbhijicmeckaaW.PrintLast Go.Proofs.YtdbbhijicmeckaaW.PrintMore
attribute [local go_sem] max2_int min2_int max_two min_two max_three min_three max_four min_four   -- for this text's walks alone
set_option linter.unusedVariables false
set_option linter.unusedSimpArgs false

/-! ### demurralref09_Record: function 14 -/
def demurralref09_Record.f (k : Nat) (a0 : ByteArray) : Option (ByteArray) := (demurralref07_One.f k true 0 a0).bind fun t131 => ((demurralref09_Crc.f k t131).bind fun t132 => ((some (([((Int.tdiv t132 16777216) % 4294967296) % 256, ((Int.tdiv t132 65536) % 4294967296) % 256, ((Int.tdiv t132 256) % 4294967296) % 256, (Int.tmod t132 256) % 256] : List Int) : List Int)).bind fun y133 => (if t131.size + (strOfNums y133).size ≤ 9223372036854775807 then (some (t131 ++ (strOfNums y133))) else (none))))
theorem demurralref09_Record.mono : ∀ a0 k, LeO (demurralref09_Record.f k a0) (demurralref09_Record.f (k + 1) a0) := by
  intro a0 k
  unfold demurralref09_Record.f
  repeat' first
      | (with_reducible exact demurralref07_One.mono _ _ _ _)
      | (with_reducible exact demurralref09_Crc.mono _ _)
      | (with_reducible exact LeO.refl _)
      | (with_reducible exact LeO.none _)
      | (with_reducible refine LeO.ite ?_ ?_)
      | (with_reducible refine LeO.bind ?_ (fun _ => ?_))
      | exact demurralref07_One.mono _ _ _ _
      | exact demurralref09_Crc.mono _ _
      | exact LeO.none _
      | refine LeO.ite ?_ ?_
      | refine LeO.bind ?_ (fun _ => ?_)
set_option maxHeartbeats 8000000 in
set_option maxRecDepth 100000 in
theorem demurralref09_Record.calls (k : Nat) (a0 : ByteArray) (r : ByteArray) (w : World) (h : demurralref09_Record.f k a0 = some r) :
    Calls Try.prog 14 #[.string a0] w fun e w' => e = .returned (.string r) ∧ Below w.heap.size w w' := by
  have hu65 := Try.underlying65
  have HB := Aside0.mk (Below.refl w.heap.size w)
  have H : ((demurralref07_One.f k true 0 a0).bind fun t131 => ((demurralref09_Crc.f k t131).bind fun t132 => ((some (([((Int.tdiv t132 16777216) % 4294967296) % 256, ((Int.tdiv t132 65536) % 4294967296) % 256, ((Int.tdiv t132 256) % 4294967296) % 256, (Int.tmod t132 256) % 256] : List Int) : List Int)).bind fun y133 => (if t131.size + (strOfNums y133).size ≤ 9223372036854775807 then (some (t131 ++ (strOfNums y133))) else (none))))) = some r := h
  clear h
  replace H := Option.bind_eq_some_iff.mp H
  obtain ⟨t131, A20, H⟩ := H
  replace H : ((demurralref09_Crc.f k t131).bind fun t132 => ((some (([((Int.tdiv t132 16777216) % 4294967296) % 256, ((Int.tdiv t132 65536) % 4294967296) % 256, ((Int.tdiv t132 256) % 4294967296) % 256, (Int.tmod t132 256) % 256] : List Int) : List Int)).bind fun y133 => (if t131.size + (strOfNums y133).size ≤ 9223372036854775807 then (some (t131 ++ (strOfNums y133))) else (none)))) = some r := H
  have A2 := Aside0.mk A20
  clear A20
  replace H := Option.bind_eq_some_iff.mp H
  obtain ⟨t132, A30, H⟩ := H
  replace H : ((some (([((Int.tdiv t132 16777216) % 4294967296) % 256, ((Int.tdiv t132 65536) % 4294967296) % 256, ((Int.tdiv t132 256) % 4294967296) % 256, (Int.tmod t132 256) % 256] : List Int) : List Int)).bind fun y133 => (if t131.size + (strOfNums y133).size ≤ 9223372036854775807 then (some (t131 ++ (strOfNums y133))) else (none))) = some r := H
  have A3 := Aside0.mk A30
  clear A30
  obtain ⟨y133, hy133⟩ : ∃ y_ : List Int, y_ = (([((Int.tdiv t132 16777216) % 4294967296) % 256, ((Int.tdiv t132 65536) % 4294967296) % 256, ((Int.tdiv t132 256) % 4294967296) % 256, (Int.tmod t132 256) % 256] : List Int)) := ⟨_, rfl⟩
  replace H : (if t131.size + (strOfNums y133).size ≤ 9223372036854775807 then (some (t131 ++ (strOfNums y133))) else (none)) = some r := by first | (rw [hy133]; with_reducible exact H) | (have H2_ := (Option.bind_some _ _).symm.trans H; rw [hy133]; with_reducible exact H2_) | (have H2_ := (Option.bind_some _ _).symm.trans H; with_reducible exact H2_) | with_reducible exact H | (rw [hy133]; exact H) | exact H
  have Ny133 := Aside0.mk hy133
  clear hy133
  by_cases c4 : t131.size + (strOfNums y133).size ≤ 9223372036854775807
  · rw [if_pos c4] at H
    have c4b0 := eq_true c4
    have c4b1 : decide (t131.size + (strOfNums y133).size ≤ 9223372036854775807) = true := decide_eq_true c4
    try have c4b2 : (9223372036854775807 < t131.size + (strOfNums y133).size) = False := eq_false (Nat.not_lt.2 c4)
    obtain rfl := Option.some.inj H
    go_enter Try.func14, Try.ntmps14
    go_wp2_with (first | ((with_reducible refine gate_callee (f := 29) rfl ?_); refine goesL_ (some 7) rfl rfl Try.func29 (by kernel_rfl) rfl #[.agg #[.bool true, .int .u64 0, .string a0]] rfl (by (try simp only [List.map_toArray, List.map_cons, List.map_nil]); first | done | rfl | (simp only [List.length_drop, List.length_take]; rfl) | (simp [Act.eval]; omega)) ?_; (with_reducible refine (demurralref07_One.calls k true 0 a0 t131 _ A2.out).mono ?_); rintro e w5 ⟨rfl, hb⟩; refine ⟨_, rfl, ?_⟩; have n0_ := Aside0.mk (below_step (by repeat (first | (with_reducible first | exact HB.out | apply below_alloc | apply pw_below_drewN | apply below_drew1) | exact HB.out)) hb); clear HB; have HB := n0_; clear n0_; (try clear hb); (try clear hb2); (try clear hk); (try clear hi)) | ((with_reducible refine gate_callee (f := 12) rfl ?_); refine goesL_ (some 9) rfl rfl Try.func12 (by kernel_rfl) rfl #[.string t131] rfl (by (try simp only [List.map_toArray, List.map_cons, List.map_nil]); first | done | rfl | (simp only [List.length_drop, List.length_take]; rfl) | (simp [Act.eval]; omega)) ?_; (with_reducible refine (demurralref09_Crc.calls k t131 t132 _ A3.out).mono ?_); rintro e w' ⟨rfl, ⟨nd, rfl⟩⟩; refine ⟨_, rfl, ?_⟩) | ((with_reducible refine gate_dst (N := 25) rfl ?_); refine Kd.R_lit (Kd.int .u8) _ 5 ?hg (N := 25) ?hd (xs := ([((Int.tdiv t132 16777216) % 4294967296) % 256, ((Int.tdiv t132 65536) % 4294967296) % 256, ((Int.tdiv t132 256) % 4294967296) % 256, (Int.tmod t132 256) % 256] : List Int)) (inner := [.int .u8 (((Int.tdiv t132 16777216) % 4294967296) % 256), .int .u8 (((Int.tdiv t132 65536) % 4294967296) % 256), .int .u8 (((Int.tdiv t132 256) % 4294967296) % 256), .int .u8 ((Int.tmod t132 256) % 256)]) (ok := fun _ => True) (okp := fun _ => True) ?hr ?hp (fun _ hk => hk) trivial (Below.refl _ _) (Nat.le_refl _) (by simp) ?_; (case hd => rfl); (case hg => rfl); (case hr => first | (go_simp; done) | (go_simp; rfl)); (case hp => exact (Reps.one (show Kd.M (Kd.int .u8) _ _ _ (((Int.tdiv t132 16777216) % 4294967296) % 256) [.int .u8 (((Int.tdiv t132 16777216) % 4294967296) % 256)] from rfl) (Reps.one (show Kd.M (Kd.int .u8) _ _ _ (((Int.tdiv t132 65536) % 4294967296) % 256) [.int .u8 (((Int.tdiv t132 65536) % 4294967296) % 256)] from rfl) (Reps.one (show Kd.M (Kd.int .u8) _ _ _ (((Int.tdiv t132 256) % 4294967296) % 256) [.int .u8 (((Int.tdiv t132 256) % 4294967296) % 256)] from rfl) (Reps.one (show Kd.M (Kd.int .u8) _ _ _ ((Int.tmod t132 256) % 256) [.int .u8 ((Int.tmod t132 256) % 256)] from rfl) (Reps.none _ _)))))); intro v134 w6 ho7 hb hg_ hnew_; clear hg_ hnew_; (first | rw [← Ny133.out] at ho7 | (simp only [Int.reduceToNat] at ho7; rw [← Ny133.out] at ho7)); have n0_ := Aside0.mk (Kd.R_lower ho7 (below_size (by repeat (first | (with_reducible first | exact HB.out | apply below_alloc | apply pw_below_drewN | apply below_drew1) | exact HB.out)))); have n1_ := Aside0.mk (below_step (by repeat (first | (with_reducible first | exact HB.out | apply below_alloc | apply pw_below_drewN | apply below_drew1) | exact HB.out)) hb); clear HB; have HO135 := n0_; have HB := n1_; clear n0_ n1_; clear hb ho7; have hcv8 := own_string (P := Try.prog) Try.underlying53 Try.underlying5 Try.underlying9 (Kd.own_of_R HO135.out)))
    go_ret
    exact ⟨by first | rfl | (simp [errW_none, errW_some] <;> rfl) | (simp [*, errW_none, errW_some] <;> rfl), by repeat (first | (with_reducible first | exact HB.out | apply below_alloc | apply pw_below_drewN | apply below_drew1) | exact HB.out)⟩
  · rw [if_neg c4] at H
    exact absurd H (by simp)

end Go.Proofs.Ytdbbhijicmeckaa.Q
