-- PRINTED by print.py (a twelfth state) out of the translation. Not trusted: Lean checks it.
import Derived.Test.YtenmmeehgnkcpaaHStep
import Derived.Test.YtenmmeehgnkcpaaQx0
import Derived.Test.YtenmmeehgnkcpaaQx117
import Derived.Test.YtenmmeehgnkcpaaQx119
import Derived.Test.YtenmmeehgnkcpaaQx121
import Derived.Test.YtenmmeehgnkcpaaQx127
import Derived.Test.YtenmmeehgnkcpaaQx128
import Derived.Test.YtenmmeehgnkcpaaQx129
import Derived.Test.YtenmmeehgnkcpaaQx130
import Derived.Test.YtenmmeehgnkcpaaQx131
import Derived.Test.YtenmmeehgnkcpaaHCan
namespace Go.Proofs.Ytenmmeehgnkcpaa.Q
open Go.RowKit Go.Proofs.YtenmmeehgnkcpaaW.PrintWords Go.Proofs.YtenmmeehgnkcpaaW.PrintLast Go.Proofs.YtenmmeehgnkcpaaW.PrintMore
attribute [local go_sem] max2_int min2_int max_two min_two max_three min_three max_four min_four   -- for this text's walks alone
set_option linter.unusedVariables false
set_option linter.unusedSimpArgs false

/-! ### demurrallaw21_DeduceTells: function 7 -/
mutual
def demurrallaw21_DeduceTells.j0 : Nat → List (S28) → List Int → Int → List Int → Int → List Int → Int → Bool → Int → Int → Option (Bool)
  | 0, _, _, _, _, _, _, _, _, _, _ => none
  | k + 1, x0, x1, x2, x7, x8, x9, x10, x11, x12, x13 => if x13 = 0 then ((demurralref21_All.f k x0 x1).bind fun t262 => (if x8 = 0 then (if x10 = 0 then ((demurralref21_Step.f k x0 x1).bind fun t265 => ((demurralref20_Numbers.f k x7 t265).bind fun t268 => (if t268 = true then ((demurralref20_Numbers.f k x9 t262).bind fun t269 => (if t269 = true then ((demurrallaw21_alive.f k).bind fun t270 => (demurrallaw21_DeduceTells.j1 k x0 x2 x11 x12 t262 (!t270))) else (demurrallaw21_DeduceTells.j1 k x0 x2 x11 x12 t262 true))) else (demurrallaw21_DeduceTells.j1 k x0 x2 x11 x12 t262 true)))) else (demurrallaw21_DeduceTells.j1 k x0 x2 x11 x12 t262 true)) else (demurrallaw21_DeduceTells.j1 k x0 x2 x11 x12 t262 true))) else ((demurrallaw21_alive.f k).bind fun t261 => (if t261 = true then (if x8 = x13 then (if x10 = x13 then (if x12 = x13 then (if (wrap64 ((x7.length : Int) + (x9.length : Int))) = 0 then (some (!x11)) else (some false)) else (some false)) else (some false)) else (some false)) else (some false)))
def demurrallaw21_DeduceTells.j1 : Nat → List (S28) → Int → Bool → Int → List Int → Bool → Option (Bool)
  | 0, _, _, _, _, _, _ => none
  | k + 1, x0, x2, x11, x12, x14, x105 => if x105 = true then (some false) else (if x2 < 0 then (if x12 = 5 then (some (!x11)) else (some false)) else (if x2 ≥ (x0.length : Int) then (if x12 = 5 then (some (!x11)) else (some false)) else (if x12 = 0 then ((demurralref20_In.f k x14 x2).bind fun t271 => (some (x11 == t271))) else (some false))))
end
def demurrallaw21_DeduceTells.f (k : Nat) (l0 : List (S28)) (l1 : List Int) (a2 : Int) : Option (Bool) := (demurrallaw21_few.f l0 l1).bind fun bt243 => ((deduce_Step.f bt243.1 bt243.2).bind fun bt249 => ((deduce_All.f bt243.1 bt243.2).bind fun bt253 => ((deduce_Can.f bt243.1 bt243.2 a2).bind fun bt257 => ((demurralref20_Right.f k bt243.1).bind fun t259 => (if t259 = true then ((demurralref21_Places.f k bt243.1 bt243.2).bind fun t260 => (if t260 = true then (demurrallaw21_DeduceTells.j0 k bt243.1 bt243.2 a2 bt249.1 bt249.2 bt253.1 bt253.2 bt257.1 bt257.2 0) else (demurrallaw21_DeduceTells.j0 k bt243.1 bt243.2 a2 bt249.1 bt249.2 bt253.1 bt253.2 bt257.1 bt257.2 5))) else (demurrallaw21_DeduceTells.j0 k bt243.1 bt243.2 a2 bt249.1 bt249.2 bt253.1 bt253.2 bt257.1 bt257.2 1))))))
theorem demurrallaw21_DeduceTells.mono_l : ∀ k, (∀ y0 y1 y2 y3 y4 y5 y6 y7 y8 y9, LeO (demurrallaw21_DeduceTells.j0 k y0 y1 y2 y3 y4 y5 y6 y7 y8 y9) (demurrallaw21_DeduceTells.j0 (k + 1) y0 y1 y2 y3 y4 y5 y6 y7 y8 y9)) ∧ (∀ y0 y1 y2 y3 y4 y5, LeO (demurrallaw21_DeduceTells.j1 k y0 y1 y2 y3 y4 y5) (demurrallaw21_DeduceTells.j1 (k + 1) y0 y1 y2 y3 y4 y5))
  | 0 => ⟨fun _ _ _ _ _ _ _ _ _ _ r h => by simp [demurrallaw21_DeduceTells.j0] at h, fun _ _ _ _ _ _ r h => by simp [demurrallaw21_DeduceTells.j1] at h⟩
  | k + 1 => by
    obtain ⟨ih0, ih1⟩ := demurrallaw21_DeduceTells.mono_l k
    refine ⟨?_, ?_⟩
    · intro y0 y1 y2 y3 y4 y5 y6 y7 y8 y9
      unfold demurrallaw21_DeduceTells.j0
      repeat' first
      | (with_reducible exact ih0 _ _ _ _ _ _ _ _ _ _)
      | (with_reducible exact ih1 _ _ _ _ _ _)
      | (with_reducible exact demurrallaw21_alive.mono _)
      | (with_reducible exact demurralref20_In.mono _ _ _)
      | (with_reducible exact demurralref20_Numbers.mono _ _ _)
      | (with_reducible exact demurralref20_Right.mono _ _)
      | (with_reducible exact demurralref21_All.mono _ _ _)
      | (with_reducible exact demurralref21_Places.mono _ _ _)
      | (with_reducible exact demurralref21_Step.mono _ _ _)
      | (with_reducible exact LeO.refl _)
      | (with_reducible exact LeO.none _)
      | (with_reducible refine LeO.ite ?_ ?_)
      | (with_reducible refine LeO.bind ?_ (fun _ => ?_))
      | exact ih0 _ _ _ _ _ _ _ _ _ _
      | exact ih1 _ _ _ _ _ _
      | exact demurrallaw21_alive.mono _
      | exact demurralref20_In.mono _ _ _
      | exact demurralref20_Numbers.mono _ _ _
      | exact demurralref20_Right.mono _ _
      | exact demurralref21_All.mono _ _ _
      | exact demurralref21_Places.mono _ _ _
      | exact demurralref21_Step.mono _ _ _
      | exact LeO.none _
      | refine LeO.ite ?_ ?_
      | refine LeO.bind ?_ (fun _ => ?_)
    · intro y0 y1 y2 y3 y4 y5
      unfold demurrallaw21_DeduceTells.j1
      repeat' first
      | (with_reducible exact ih0 _ _ _ _ _ _ _ _ _ _)
      | (with_reducible exact ih1 _ _ _ _ _ _)
      | (with_reducible exact demurrallaw21_alive.mono _)
      | (with_reducible exact demurralref20_In.mono _ _ _)
      | (with_reducible exact demurralref20_Numbers.mono _ _ _)
      | (with_reducible exact demurralref20_Right.mono _ _)
      | (with_reducible exact demurralref21_All.mono _ _ _)
      | (with_reducible exact demurralref21_Places.mono _ _ _)
      | (with_reducible exact demurralref21_Step.mono _ _ _)
      | (with_reducible exact LeO.refl _)
      | (with_reducible exact LeO.none _)
      | (with_reducible refine LeO.ite ?_ ?_)
      | (with_reducible refine LeO.bind ?_ (fun _ => ?_))
      | exact ih0 _ _ _ _ _ _ _ _ _ _
      | exact ih1 _ _ _ _ _ _
      | exact demurrallaw21_alive.mono _
      | exact demurralref20_In.mono _ _ _
      | exact demurralref20_Numbers.mono _ _ _
      | exact demurralref20_Right.mono _ _
      | exact demurralref21_All.mono _ _ _
      | exact demurralref21_Places.mono _ _ _
      | exact demurralref21_Step.mono _ _ _
      | exact LeO.none _
      | refine LeO.ite ?_ ?_
      | refine LeO.bind ?_ (fun _ => ?_)
theorem demurrallaw21_DeduceTells.mono : ∀ a0 a1 a2 k, LeO (demurrallaw21_DeduceTells.f k a0 a1 a2) (demurrallaw21_DeduceTells.f (k + 1) a0 a1 a2) := by
  intro a0 a1 a2 k
  obtain ⟨ih0, ih1⟩ := demurrallaw21_DeduceTells.mono_l k
  unfold demurrallaw21_DeduceTells.f
  repeat' first
      | (with_reducible exact ih0 _ _ _ _ _ _ _ _ _ _)
      | (with_reducible exact ih1 _ _ _ _ _ _)
      | (with_reducible exact demurrallaw21_alive.mono _)
      | (with_reducible exact demurralref20_In.mono _ _ _)
      | (with_reducible exact demurralref20_Numbers.mono _ _ _)
      | (with_reducible exact demurralref20_Right.mono _ _)
      | (with_reducible exact demurralref21_All.mono _ _ _)
      | (with_reducible exact demurralref21_Places.mono _ _ _)
      | (with_reducible exact demurralref21_Step.mono _ _ _)
      | (with_reducible exact LeO.refl _)
      | (with_reducible exact LeO.none _)
      | (with_reducible refine LeO.ite ?_ ?_)
      | (with_reducible refine LeO.bind ?_ (fun _ => ?_))
      | exact ih0 _ _ _ _ _ _ _ _ _ _
      | exact ih1 _ _ _ _ _ _
      | exact demurrallaw21_alive.mono _
      | exact demurralref20_In.mono _ _ _
      | exact demurralref20_Numbers.mono _ _ _
      | exact demurralref20_Right.mono _ _
      | exact demurralref21_All.mono _ _ _
      | exact demurralref21_Places.mono _ _ _
      | exact demurralref21_Step.mono _ _ _
      | exact LeO.none _
      | refine LeO.ite ?_ ?_
      | refine LeO.bind ?_ (fun _ => ?_)
set_option maxHeartbeats 8000000 in
set_option maxRecDepth 100000 in
theorem demurrallaw21_DeduceTells.calls (k : Nat) (A0 : Option Addr) (c0 : Nat) (l0 : List (S28)) (A1 : Option Addr) (c1 : Nat) (l1 : List Int) (a2 : Int) (r : Bool) (w : World) (hr0 : Kd.C k28 w A0 l0.length l0) (hc0 : l0.length ≤ c0) (hr1 : Kd.C (Kd.int .i64) w A1 l1.length l1) (hc1 : l1.length ≤ c1) (h : demurrallaw21_DeduceTells.f k l0 l1 a2 = some r) :
    Calls Try.prog 7 #[.slice A0 l0.length c0, .slice A1 l1.length c1, .int .i64 a2] w fun e w' => e = .returned (.bool r) ∧ Below w.heap.size w w' := by
  have HR0 := Aside0.mk hr0
  have HC0 := Aside0.mk hc0
  clear hr0 hc0
  have HR1 := Aside0.mk hr1
  have HC1 := Aside0.mk hc1
  clear hr1 hc1
  have HB := Aside0.mk (Below.refl w.heap.size w)
  have H : ((demurrallaw21_few.f l0 l1).bind fun bt243 => ((deduce_Step.f bt243.1 bt243.2).bind fun bt249 => ((deduce_All.f bt243.1 bt243.2).bind fun bt253 => ((deduce_Can.f bt243.1 bt243.2 a2).bind fun bt257 => ((demurralref20_Right.f k bt243.1).bind fun t259 => (if t259 = true then ((demurralref21_Places.f k bt243.1 bt243.2).bind fun t260 => (if t260 = true then (demurrallaw21_DeduceTells.j0 k bt243.1 bt243.2 a2 bt249.1 bt249.2 bt253.1 bt253.2 bt257.1 bt257.2 0) else (demurrallaw21_DeduceTells.j0 k bt243.1 bt243.2 a2 bt249.1 bt249.2 bt253.1 bt253.2 bt257.1 bt257.2 5))) else (demurrallaw21_DeduceTells.j0 k bt243.1 bt243.2 a2 bt249.1 bt249.2 bt253.1 bt253.2 bt257.1 bt257.2 1))))))) = some r := h
  clear h
  replace H := Option.bind_eq_some_iff.mp H
  obtain ⟨⟨t243, t246⟩, A40, H⟩ := H
  replace H : ((deduce_Step.f t243 t246).bind fun bt249 => ((deduce_All.f t243 t246).bind fun bt253 => ((deduce_Can.f t243 t246 a2).bind fun bt257 => ((demurralref20_Right.f k t243).bind fun t259 => (if t259 = true then ((demurralref21_Places.f k t243 t246).bind fun t260 => (if t260 = true then (demurrallaw21_DeduceTells.j0 k t243 t246 a2 bt249.1 bt249.2 bt253.1 bt253.2 bt257.1 bt257.2 0) else (demurrallaw21_DeduceTells.j0 k t243 t246 a2 bt249.1 bt249.2 bt253.1 bt253.2 bt257.1 bt257.2 5))) else (demurrallaw21_DeduceTells.j0 k t243 t246 a2 bt249.1 bt249.2 bt253.1 bt253.2 bt257.1 bt257.2 1)))))) = some r := H
  have A4 := Aside0.mk A40
  clear A40
  replace H := Option.bind_eq_some_iff.mp H
  obtain ⟨⟨t249, t250⟩, A50, H⟩ := H
  replace H : ((deduce_All.f t243 t246).bind fun bt253 => ((deduce_Can.f t243 t246 a2).bind fun bt257 => ((demurralref20_Right.f k t243).bind fun t259 => (if t259 = true then ((demurralref21_Places.f k t243 t246).bind fun t260 => (if t260 = true then (demurrallaw21_DeduceTells.j0 k t243 t246 a2 t249 t250 bt253.1 bt253.2 bt257.1 bt257.2 0) else (demurrallaw21_DeduceTells.j0 k t243 t246 a2 t249 t250 bt253.1 bt253.2 bt257.1 bt257.2 5))) else (demurrallaw21_DeduceTells.j0 k t243 t246 a2 t249 t250 bt253.1 bt253.2 bt257.1 bt257.2 1))))) = some r := H
  have A5 := Aside0.mk A50
  clear A50
  replace H := Option.bind_eq_some_iff.mp H
  obtain ⟨⟨t253, t254⟩, A60, H⟩ := H
  replace H : ((deduce_Can.f t243 t246 a2).bind fun bt257 => ((demurralref20_Right.f k t243).bind fun t259 => (if t259 = true then ((demurralref21_Places.f k t243 t246).bind fun t260 => (if t260 = true then (demurrallaw21_DeduceTells.j0 k t243 t246 a2 t249 t250 t253 t254 bt257.1 bt257.2 0) else (demurrallaw21_DeduceTells.j0 k t243 t246 a2 t249 t250 t253 t254 bt257.1 bt257.2 5))) else (demurrallaw21_DeduceTells.j0 k t243 t246 a2 t249 t250 t253 t254 bt257.1 bt257.2 1)))) = some r := H
  have A6 := Aside0.mk A60
  clear A60
  replace H := Option.bind_eq_some_iff.mp H
  obtain ⟨⟨t257, t258⟩, A70, H⟩ := H
  replace H : ((demurralref20_Right.f k t243).bind fun t259 => (if t259 = true then ((demurralref21_Places.f k t243 t246).bind fun t260 => (if t260 = true then (demurrallaw21_DeduceTells.j0 k t243 t246 a2 t249 t250 t253 t254 t257 t258 0) else (demurrallaw21_DeduceTells.j0 k t243 t246 a2 t249 t250 t253 t254 t257 t258 5))) else (demurrallaw21_DeduceTells.j0 k t243 t246 a2 t249 t250 t253 t254 t257 t258 1))) = some r := H
  have A7 := Aside0.mk A70
  clear A70
  have HC8 := Aside0.mk H
  clear H
  go_enter Try.func7, Try.ntmps7
  go_upto_block 0 with (first | ((with_reducible refine gate_callee (f := 17) rfl ?_); refine goesL_ (some 18) rfl rfl Try.func17 (by kernel_rfl) rfl #[.slice A0 l0.length c0, .slice A1 l1.length c1] rfl (by (try simp only [List.map_toArray, List.map_cons, List.map_nil]); first | done | rfl | (simp only [List.length_drop, List.length_take]; rfl) | (simp [Act.eval]; omega)) ?_; (with_reducible refine (demurrallaw21_few.calls (fun k_ => k_ < w.heap.size) _ _ l0 (fun k_ => k_ < w.heap.size) _ _ l1 t243 t246 _ ?side1 ?side2 A4.out).mono ?_); (case side1 => exact Kd.V_mk HC0.out (Kd.F_below (Kd.C_F k28_heap HR0.out) (wb_ HB.out))); (case side2 => exact Kd.V_mk HC1.out (Kd.F_below (Kd.C_F (Kd.heap_int .i64) HR1.out) (wb_ HB.out))); rintro e w9 ⟨v244, v247, rfl, ho0, ho1, hb⟩; refine ⟨_, rfl, ?_⟩; have n0_ := Aside0.mk (Kd.V_lower (Kd.V_mono (ok' := fun k_ => True) ho0 (fun k_ hk_ => trivial)) (below_size (wb_ HB.out))); have n1_ := Aside0.mk (Kd.V_lower (Kd.V_mono (ok' := fun k_ => True) ho1 (fun k_ hk_ => trivial)) (below_size (wb_ HB.out))); have n2_ := Aside0.mk (below_step (wb_ HB.out) hb); clear HB; have HO245 := n0_; have HO248 := n1_; have HB := n2_; clear n0_ n1_ n2_; (try clear hb); (try clear hb2); (try clear hk); (try clear hi); (try clear ho0); (try clear ho1); obtain ⟨Ao10, co10, eo10⟩ := Kd.V_slice HO245.out; subst eo10; obtain ⟨Ao11, co11, eo11⟩ := Kd.V_slice HO248.out; subst eo11) | ((with_reducible refine gate_callee (f := 20) rfl ?_); refine goesL_ (some 24) rfl rfl Try.func20 (by kernel_rfl) rfl #[.slice Ao10 t243.length co10, .slice Ao11 t246.length co11] rfl (by (try simp only [List.map_toArray, List.map_cons, List.map_nil]); first | done | rfl | (simp only [List.length_drop, List.length_take]; rfl) | (simp [Act.eval]; omega)) ?_; (with_reducible refine (deduce_Step.calls _ _ t243 _ _ t246 t249 t250 _ ?side1 ?side2 ?side3 ?side4 A5.out).mono ?_); (case side1 => repeat (first | exact (Kd.V_reads' HO245.out).2.2 | (with_reducible refine Kd.C_alloc ?_ _) | (with_reducible refine Kd.C_drewN ?_ _) | (with_reducible refine Kd.C_drew ?_))); (case side2 => exact (Kd.V_reads' HO245.out).2.1); (case side3 => repeat (first | exact (Kd.V_reads' HO248.out).2.2 | (with_reducible refine Kd.C_alloc ?_ _) | (with_reducible refine Kd.C_drewN ?_ _) | (with_reducible refine Kd.C_drew ?_))); (case side4 => exact (Kd.V_reads' HO248.out).2.1); rintro e w12 ⟨v251, rfl, ho0, hb⟩; refine ⟨_, rfl, ?_⟩; have n0_ := Aside0.mk (Kd.V_elder' (kV_ HO245.out) (Kd.R_base ho0) hb); have n1_ := Aside0.mk (Kd.V_elder' (kV_ HO248.out) (Kd.R_base ho0) hb); have n2_ := Aside0.mk (Kd.R_lower ho0 (below_size (wb_ HB.out))); have n3_ := Aside0.mk (below_step (wb_ HB.out) hb); clear HO245; clear HO248; clear HB; have HO245 := n0_; have HO248 := n1_; have HO252 := n2_; have HB := n3_; clear n0_ n1_ n2_ n3_; (try clear hb); (try clear hb2); (try clear hk); (try clear hi); (try clear ho0)) | ((with_reducible refine gate_callee (f := 18) rfl ?_); refine goesL_ (some 30) rfl rfl Try.func18 (by kernel_rfl) rfl #[.slice Ao10 t243.length co10, .slice Ao11 t246.length co11] rfl (by (try simp only [List.map_toArray, List.map_cons, List.map_nil]); first | done | rfl | (simp only [List.length_drop, List.length_take]; rfl) | (simp [Act.eval]; omega)) ?_; (with_reducible refine (deduce_All.calls _ _ t243 _ _ t246 t253 t254 _ ?side1 ?side2 ?side3 ?side4 A6.out).mono ?_); (case side1 => repeat (first | exact (Kd.V_reads' HO245.out).2.2 | (with_reducible refine Kd.C_alloc ?_ _) | (with_reducible refine Kd.C_drewN ?_ _) | (with_reducible refine Kd.C_drew ?_))); (case side2 => exact (Kd.V_reads' HO245.out).2.1); (case side3 => repeat (first | exact (Kd.V_reads' HO248.out).2.2 | (with_reducible refine Kd.C_alloc ?_ _) | (with_reducible refine Kd.C_drewN ?_ _) | (with_reducible refine Kd.C_drew ?_))); (case side4 => exact (Kd.V_reads' HO248.out).2.1); rintro e w13 ⟨v255, rfl, ho0, hb⟩; refine ⟨_, rfl, ?_⟩; have n0_ := Aside0.mk (Kd.V_elder' (kV_ HO245.out) (Kd.R_base ho0) hb); have n1_ := Aside0.mk (Kd.V_elder' (kV_ HO248.out) (Kd.R_base ho0) hb); have n2_ := Aside0.mk (Kd.R_elder' (kR_ HO252.out) (Kd.R_base ho0) hb); have n3_ := Aside0.mk (Kd.R_lower (Kd.R_new' ho0 (Kd.R_lt (kR_ HO252.out))) (below_size (wb_ HB.out))); have n4_ := Aside0.mk (below_step (wb_ HB.out) hb); clear HO245; clear HO248; clear HO252; clear HB; have HO245 := n0_; have HO248 := n1_; have HO252 := n2_; have HO256 := n3_; have HB := n4_; clear n0_ n1_ n2_ n3_ n4_; (try clear hb); (try clear hb2); (try clear hk); (try clear hi); (try clear ho0)) | ((with_reducible refine gate_callee (f := 16) rfl ?_); refine goesL_ (some 37) rfl rfl Try.func16 (by kernel_rfl) rfl #[.slice Ao10 t243.length co10, .slice Ao11 t246.length co11, .int .i64 a2] rfl (by (try simp only [List.map_toArray, List.map_cons, List.map_nil]); first | done | rfl | (simp only [List.length_drop, List.length_take]; rfl) | (simp [Act.eval]; omega)) ?_; (with_reducible refine (deduce_Can.calls _ _ t243 _ _ t246 a2 t257 t258 _ ?side1 ?side2 ?side3 ?side4 A7.out).mono ?_); (case side1 => repeat (first | exact (Kd.V_reads' HO245.out).2.2 | (with_reducible refine Kd.C_alloc ?_ _) | (with_reducible refine Kd.C_drewN ?_ _) | (with_reducible refine Kd.C_drew ?_))); (case side2 => exact (Kd.V_reads' HO245.out).2.1); (case side3 => repeat (first | exact (Kd.V_reads' HO248.out).2.2 | (with_reducible refine Kd.C_alloc ?_ _) | (with_reducible refine Kd.C_drewN ?_ _) | (with_reducible refine Kd.C_drew ?_))); (case side4 => exact (Kd.V_reads' HO248.out).2.1); rintro e w14 ⟨rfl, hb⟩; refine ⟨_, rfl, ?_⟩; have n0_ := Aside0.mk (Kd.V_below (kV_ HO245.out) hb); have n1_ := Aside0.mk (Kd.V_below (kV_ HO248.out) hb); have n2_ := Aside0.mk (Kd.R_below (kR_ HO252.out) hb); have n3_ := Aside0.mk (Kd.R_below (kR_ HO256.out) hb); have n4_ := Aside0.mk (below_step (wb_ HB.out) hb); clear HO245; clear HO248; clear HO252; clear HO256; clear HB; have HO245 := n0_; have HO248 := n1_; have HO252 := n2_; have HO256 := n3_; have HB := n4_; clear n0_ n1_ n2_ n3_ n4_; (try clear hb); (try clear hb2); (try clear hk); (try clear hi)))
  (try simp only [Act.put, List.setIfInBounds_toArray, List.set_cons_zero, List.set_cons_succ])
  go_cut [13] (fun v13 wc => ∃ (kq : Nat) (x13_7 : Int), v13 = .int .i64 x13_7 ∧ Aside0 (demurrallaw21_DeduceTells.j0 kq t243 t246 a2 t249 t250 t253 t254 t257 t258 x13_7 = some r) ∧ Aside0 (kq ≤ k) ∧ Aside0 (Kd.V k28 28 wc w.heap.size (fun k_ => some k_ ≠ (v251 : Value).ownBlock ∧ some k_ ≠ (v255 : Value).ownBlock) (.slice Ao10 t243.length co10) t243) ∧ Aside0 (Kd.V (Kd.int .i64) 3 wc w.heap.size (fun k_ => some k_ ≠ (v251 : Value).ownBlock ∧ some k_ ≠ (v255 : Value).ownBlock) (.slice Ao11 t246.length co11) t246) ∧ Aside0 (Kd.R (Kd.int .i64) 3 wc w.heap.size (fun k_ => some k_ ≠ (v255 : Value).ownBlock) v251 t249) ∧ Aside0 (Kd.R (Kd.int .i64) 3 wc w.heap.size (fun k_ => some k_ ≠ (v251 : Value).ownBlock) v255 t253) ∧ Aside0 (Below w.heap.size w wc))
  case first =>
    have H := HC8.out
    clear HC8
    replace H := Option.bind_eq_some_iff.mp H
    obtain ⟨t259, A150, H⟩ := H
    replace H : (if t259 = true then ((demurralref21_Places.f k t243 t246).bind fun t260 => (if t260 = true then (demurrallaw21_DeduceTells.j0 k t243 t246 a2 t249 t250 t253 t254 t257 t258 0) else (demurrallaw21_DeduceTells.j0 k t243 t246 a2 t249 t250 t253 t254 t257 t258 5))) else (demurrallaw21_DeduceTells.j0 k t243 t246 a2 t249 t250 t253 t254 t257 t258 1)) = some r := H
    have A15 := Aside0.mk A150
    clear A150
    by_cases c16 : t259 = true
    · subst c16
      have H1 : ((demurralref21_Places.f k t243 t246).bind fun t260 => (if t260 = true then (demurrallaw21_DeduceTells.j0 k t243 t246 a2 t249 t250 t253 t254 t257 t258 0) else (demurrallaw21_DeduceTells.j0 k t243 t246 a2 t249 t250 t253 t254 t257 t258 5))) = some r := by rw [if_pos rfl] at H; exact H
      clear H
      have H := H1
      clear H1
      replace H := Option.bind_eq_some_iff.mp H
      obtain ⟨t260, A170, H⟩ := H
      replace H : (if t260 = true then (demurrallaw21_DeduceTells.j0 k t243 t246 a2 t249 t250 t253 t254 t257 t258 0) else (demurrallaw21_DeduceTells.j0 k t243 t246 a2 t249 t250 t253 t254 t257 t258 5)) = some r := H
      have A17 := Aside0.mk A170
      clear A170
      by_cases c18 : t260 = true
      · subst c18
        have H1 : (demurrallaw21_DeduceTells.j0 k t243 t246 a2 t249 t250 t253 t254 t257 t258 0) = some r := by rw [if_pos rfl] at H; exact H
        clear H
        have H := H1
        clear H1
        have H' := Aside0.mk H
        clear H
        go_wp2_with (first | ((with_reducible refine gate_callee (f := 27) rfl ?_); refine goesL_ (some 42) rfl rfl Try.func27 (by kernel_rfl) rfl #[.slice Ao10 t243.length co10] rfl (by (try simp only [List.map_toArray, List.map_cons, List.map_nil]); first | done | rfl | (simp only [List.length_drop, List.length_take]; rfl) | (simp [Act.eval]; omega)) ?_; (with_reducible refine (demurralref20_Right.calls k _ _ t243 true _ ?side1 ?side2 A15.out).mono ?_); (case side1 => repeat (first | exact (Kd.V_reads' HO245.out).2.2 | (with_reducible refine Kd.C_alloc ?_ _) | (with_reducible refine Kd.C_drewN ?_ _) | (with_reducible refine Kd.C_drew ?_))); (case side2 => exact (Kd.V_reads' HO245.out).2.1); rintro e w19 ⟨rfl, hb⟩; refine ⟨_, rfl, ?_⟩; have n0_ := Aside0.mk (Kd.V_below (kV_ HO245.out) hb); have n1_ := Aside0.mk (Kd.V_below (kV_ HO248.out) hb); have n2_ := Aside0.mk (Kd.R_below (kR_ HO252.out) hb); have n3_ := Aside0.mk (Kd.R_below (kR_ HO256.out) hb); have n4_ := Aside0.mk (below_step (wb_ HB.out) hb); clear HO245; clear HO248; clear HO252; clear HO256; clear HB; have HO245 := n0_; have HO248 := n1_; have HO252 := n2_; have HO256 := n3_; have HB := n4_; clear n0_ n1_ n2_ n3_ n4_; (try clear hb); (try clear hb2); (try clear hk); (try clear hi)) | ((with_reducible refine gate_callee (f := 28) rfl ?_); refine goesL_ (some 47) rfl rfl Try.func28 (by kernel_rfl) rfl #[.slice Ao10 t243.length co10, .slice Ao11 t246.length co11] rfl (by (try simp only [List.map_toArray, List.map_cons, List.map_nil]); first | done | rfl | (simp only [List.length_drop, List.length_take]; rfl) | (simp [Act.eval]; omega)) ?_; (with_reducible refine (demurralref21_Places.calls k _ _ t243 _ _ t246 true _ ?side1 ?side2 ?side3 ?side4 A17.out).mono ?_); (case side1 => repeat (first | exact (Kd.V_reads' HO245.out).2.2 | (with_reducible refine Kd.C_alloc ?_ _) | (with_reducible refine Kd.C_drewN ?_ _) | (with_reducible refine Kd.C_drew ?_))); (case side2 => exact (Kd.V_reads' HO245.out).2.1); (case side3 => repeat (first | exact (Kd.V_reads' HO248.out).2.2 | (with_reducible refine Kd.C_alloc ?_ _) | (with_reducible refine Kd.C_drewN ?_ _) | (with_reducible refine Kd.C_drew ?_))); (case side4 => exact (Kd.V_reads' HO248.out).2.1); rintro e w' ⟨rfl, ⟨nd, rfl⟩⟩; refine ⟨_, rfl, ?_⟩))
        go_meet
        case rel => exact ⟨_, (0), (by first | rfl | (simp; done) | (simp [*]; done)), H', ⟨by first | omega | exact Nat.le_refl _⟩, ⟨by (with_reducible repeat (first | apply Kd.V_alloc | apply Kd.V_drewN | apply Kd.V_drew)); exact Kd.V_mono HO245.out (fun _ hk => ⟨hk.1.2, hk.2⟩)⟩, ⟨by (with_reducible repeat (first | apply Kd.V_alloc | apply Kd.V_drewN | apply Kd.V_drew)); exact Kd.V_mono HO248.out (fun _ hk => ⟨hk.1.2, hk.2⟩)⟩, ⟨by (with_reducible repeat (first | apply Kd.R_alloc | apply Kd.R_drewN | apply Kd.R_drew)); exact Kd.R_mono HO252.out (fun _ hk => hk.2)⟩, ⟨by (with_reducible repeat (first | apply Kd.R_alloc | apply Kd.R_drewN | apply Kd.R_drew)); exact Kd.R_mono HO256.out (fun _ hk => hk.2)⟩, ⟨by repeat (first | (with_reducible first | exact HB.out | apply below_alloc | apply pw_below_drewN | apply below_drew1) | exact HB.out)⟩⟩
      · replace c18 := Bool.eq_false_iff.mpr c18
        subst c18
        have H1 : (demurrallaw21_DeduceTells.j0 k t243 t246 a2 t249 t250 t253 t254 t257 t258 5) = some r := by rw [if_neg (show ¬ (false = true) by decide)] at H; exact H
        clear H
        have H := H1
        clear H1
        have H' := Aside0.mk H
        clear H
        go_wp2_with (first | ((with_reducible refine gate_callee (f := 27) rfl ?_); refine goesL_ (some 42) rfl rfl Try.func27 (by kernel_rfl) rfl #[.slice Ao10 t243.length co10] rfl (by (try simp only [List.map_toArray, List.map_cons, List.map_nil]); first | done | rfl | (simp only [List.length_drop, List.length_take]; rfl) | (simp [Act.eval]; omega)) ?_; (with_reducible refine (demurralref20_Right.calls k _ _ t243 true _ ?side1 ?side2 A15.out).mono ?_); (case side1 => repeat (first | exact (Kd.V_reads' HO245.out).2.2 | (with_reducible refine Kd.C_alloc ?_ _) | (with_reducible refine Kd.C_drewN ?_ _) | (with_reducible refine Kd.C_drew ?_))); (case side2 => exact (Kd.V_reads' HO245.out).2.1); rintro e w20 ⟨rfl, hb⟩; refine ⟨_, rfl, ?_⟩; have n0_ := Aside0.mk (Kd.V_below (kV_ HO245.out) hb); have n1_ := Aside0.mk (Kd.V_below (kV_ HO248.out) hb); have n2_ := Aside0.mk (Kd.R_below (kR_ HO252.out) hb); have n3_ := Aside0.mk (Kd.R_below (kR_ HO256.out) hb); have n4_ := Aside0.mk (below_step (wb_ HB.out) hb); clear HO245; clear HO248; clear HO252; clear HO256; clear HB; have HO245 := n0_; have HO248 := n1_; have HO252 := n2_; have HO256 := n3_; have HB := n4_; clear n0_ n1_ n2_ n3_ n4_; (try clear hb); (try clear hb2); (try clear hk); (try clear hi)) | ((with_reducible refine gate_callee (f := 28) rfl ?_); refine goesL_ (some 47) rfl rfl Try.func28 (by kernel_rfl) rfl #[.slice Ao10 t243.length co10, .slice Ao11 t246.length co11] rfl (by (try simp only [List.map_toArray, List.map_cons, List.map_nil]); first | done | rfl | (simp only [List.length_drop, List.length_take]; rfl) | (simp [Act.eval]; omega)) ?_; (with_reducible refine (demurralref21_Places.calls k _ _ t243 _ _ t246 false _ ?side1 ?side2 ?side3 ?side4 A17.out).mono ?_); (case side1 => repeat (first | exact (Kd.V_reads' HO245.out).2.2 | (with_reducible refine Kd.C_alloc ?_ _) | (with_reducible refine Kd.C_drewN ?_ _) | (with_reducible refine Kd.C_drew ?_))); (case side2 => exact (Kd.V_reads' HO245.out).2.1); (case side3 => repeat (first | exact (Kd.V_reads' HO248.out).2.2 | (with_reducible refine Kd.C_alloc ?_ _) | (with_reducible refine Kd.C_drewN ?_ _) | (with_reducible refine Kd.C_drew ?_))); (case side4 => exact (Kd.V_reads' HO248.out).2.1); rintro e w' ⟨rfl, ⟨nd, rfl⟩⟩; refine ⟨_, rfl, ?_⟩))
        go_meet
        case rel => exact ⟨_, (5), (by first | rfl | (simp; done) | (simp [*]; done)), H', ⟨by first | omega | exact Nat.le_refl _⟩, ⟨by (with_reducible repeat (first | apply Kd.V_alloc | apply Kd.V_drewN | apply Kd.V_drew)); exact Kd.V_mono HO245.out (fun _ hk => ⟨hk.1.2, hk.2⟩)⟩, ⟨by (with_reducible repeat (first | apply Kd.V_alloc | apply Kd.V_drewN | apply Kd.V_drew)); exact Kd.V_mono HO248.out (fun _ hk => ⟨hk.1.2, hk.2⟩)⟩, ⟨by (with_reducible repeat (first | apply Kd.R_alloc | apply Kd.R_drewN | apply Kd.R_drew)); exact Kd.R_mono HO252.out (fun _ hk => hk.2)⟩, ⟨by (with_reducible repeat (first | apply Kd.R_alloc | apply Kd.R_drewN | apply Kd.R_drew)); exact Kd.R_mono HO256.out (fun _ hk => hk.2)⟩, ⟨by repeat (first | (with_reducible first | exact HB.out | apply below_alloc | apply pw_below_drewN | apply below_drew1) | exact HB.out)⟩⟩
    · replace c16 := Bool.eq_false_iff.mpr c16
      subst c16
      have H1 : (demurrallaw21_DeduceTells.j0 k t243 t246 a2 t249 t250 t253 t254 t257 t258 1) = some r := by rw [if_neg (show ¬ (false = true) by decide)] at H; exact H
      clear H
      have H := H1
      clear H1
      have H' := Aside0.mk H
      clear H
      go_wp2_with (first | ((with_reducible refine gate_callee (f := 27) rfl ?_); refine goesL_ (some 42) rfl rfl Try.func27 (by kernel_rfl) rfl #[.slice Ao10 t243.length co10] rfl (by (try simp only [List.map_toArray, List.map_cons, List.map_nil]); first | done | rfl | (simp only [List.length_drop, List.length_take]; rfl) | (simp [Act.eval]; omega)) ?_; (with_reducible refine (demurralref20_Right.calls k _ _ t243 false _ ?side1 ?side2 A15.out).mono ?_); (case side1 => repeat (first | exact (Kd.V_reads' HO245.out).2.2 | (with_reducible refine Kd.C_alloc ?_ _) | (with_reducible refine Kd.C_drewN ?_ _) | (with_reducible refine Kd.C_drew ?_))); (case side2 => exact (Kd.V_reads' HO245.out).2.1); rintro e w21 ⟨rfl, hb⟩; refine ⟨_, rfl, ?_⟩; have n0_ := Aside0.mk (Kd.V_below (kV_ HO245.out) hb); have n1_ := Aside0.mk (Kd.V_below (kV_ HO248.out) hb); have n2_ := Aside0.mk (Kd.R_below (kR_ HO252.out) hb); have n3_ := Aside0.mk (Kd.R_below (kR_ HO256.out) hb); have n4_ := Aside0.mk (below_step (wb_ HB.out) hb); clear HO245; clear HO248; clear HO252; clear HO256; clear HB; have HO245 := n0_; have HO248 := n1_; have HO252 := n2_; have HO256 := n3_; have HB := n4_; clear n0_ n1_ n2_ n3_ n4_; (try clear hb); (try clear hb2); (try clear hk); (try clear hi)))
      go_meet
      case rel => exact ⟨_, (1), (by first | rfl | (simp; done) | (simp [*]; done)), H', ⟨by first | omega | exact Nat.le_refl _⟩, ⟨by (with_reducible repeat (first | apply Kd.V_alloc | apply Kd.V_drewN | apply Kd.V_drew)); exact Kd.V_mono HO245.out (fun _ hk => ⟨hk.1.2, hk.2⟩)⟩, ⟨by (with_reducible repeat (first | apply Kd.V_alloc | apply Kd.V_drewN | apply Kd.V_drew)); exact Kd.V_mono HO248.out (fun _ hk => ⟨hk.1.2, hk.2⟩)⟩, ⟨by (with_reducible repeat (first | apply Kd.R_alloc | apply Kd.R_drewN | apply Kd.R_drew)); exact Kd.R_mono HO252.out (fun _ hk => hk.2)⟩, ⟨by (with_reducible repeat (first | apply Kd.R_alloc | apply Kd.R_drewN | apply Kd.R_drew)); exact Kd.R_mono HO256.out (fun _ hk => hk.2)⟩, ⟨by repeat (first | (with_reducible first | exact HB.out | apply below_alloc | apply pw_below_drewN | apply below_drew1) | exact HB.out)⟩⟩
  case rest =>
    clear HC8
    try clear c1
    try clear c2
    try clear p2
    try clear c7
    try clear c16
    try clear c17
    try clear c18
    try clear c20
    obtain ⟨kq, x13_7, rfl, HA, HJ7, HO_0, HO_1, HO_7, HO_9, HB⟩ := hcut
    cases kq with
    | zero => exact absurd HA.out (by simp [demurrallaw21_DeduceTells.j0])
    | succ kj7 =>
      have H := HA.out
      clear HA
      simp only [demurrallaw21_DeduceTells.j0] at H
      by_cases c22 : x13_7 = 0
      · rw [if_pos c22] at H
        have c22b0 : (x13_7 == 0) = true := beq_iff_eq.mpr c22
        have c22b1 : (x13_7 != 0) = false := bne_eq_false_iff_eq.mpr c22
        clear c22
        replace H := Option.bind_eq_some_iff.mp H
        obtain ⟨t262, A230, H⟩ := H
        replace H : (if t250 = 0 then (if t254 = 0 then ((demurralref21_Step.f kj7 t243 t246).bind fun t265 => ((demurralref20_Numbers.f kj7 t249 t265).bind fun t268 => (if t268 = true then ((demurralref20_Numbers.f kj7 t253 t262).bind fun t269 => (if t269 = true then ((demurrallaw21_alive.f kj7).bind fun t270 => (demurrallaw21_DeduceTells.j1 kj7 t243 a2 t257 t258 t262 (!t270))) else (demurrallaw21_DeduceTells.j1 kj7 t243 a2 t257 t258 t262 true))) else (demurrallaw21_DeduceTells.j1 kj7 t243 a2 t257 t258 t262 true)))) else (demurrallaw21_DeduceTells.j1 kj7 t243 a2 t257 t258 t262 true)) else (demurrallaw21_DeduceTells.j1 kj7 t243 a2 t257 t258 t262 true)) = some r := H
        have A23 := Aside0.mk A230
        clear A230
        have HC24 := Aside0.mk H
        clear H
        go_upto_region 13 with (first | ((with_reducible refine gate_callee (f := 29) rfl ?_); refine goesL_ (some 81) rfl rfl Try.func29 (by kernel_rfl) rfl #[.slice Ao10 t243.length co10, .slice Ao11 t246.length co11] rfl (by (try simp only [List.map_toArray, List.map_cons, List.map_nil]); first | done | rfl | (simp only [List.length_drop, List.length_take]; rfl) | (simp [Act.eval]; omega)) ?_; (with_reducible refine (demurralref21_All.calls kj7 _ _ t243 _ _ t246 t262 _ ?side1 ?side2 ?side3 ?side4 A23.out).mono ?_); (case side1 => repeat (first | exact (Kd.V_reads' HO_0.out).2.2 | (with_reducible refine Kd.C_alloc ?_ _) | (with_reducible refine Kd.C_drewN ?_ _) | (with_reducible refine Kd.C_drew ?_))); (case side2 => exact (Kd.V_reads' HO_0.out).2.1); (case side3 => repeat (first | exact (Kd.V_reads' HO_1.out).2.2 | (with_reducible refine Kd.C_alloc ?_ _) | (with_reducible refine Kd.C_drewN ?_ _) | (with_reducible refine Kd.C_drew ?_))); (case side4 => exact (Kd.V_reads' HO_1.out).2.1); rintro e w25 ⟨v263, rfl, ho0, hb⟩; refine ⟨_, rfl, ?_⟩; have n0_ := Aside0.mk (Kd.V_elder' (kV_ HO_0.out) (Kd.R_base ho0) hb); have n1_ := Aside0.mk (Kd.V_elder' (kV_ HO_1.out) (Kd.R_base ho0) hb); have n2_ := Aside0.mk (Kd.R_elder' (kR_ HO_7.out) (Kd.R_base ho0) hb); have n3_ := Aside0.mk (Kd.R_elder' (kR_ HO_9.out) (Kd.R_base ho0) hb); have n4_ := Aside0.mk (Kd.R_lower (Kd.R_new' (Kd.R_new' ho0 (Kd.R_lt (kR_ HO_7.out))) (Kd.R_lt (kR_ HO_9.out))) (below_size (wb_ HB.out))); have n5_ := Aside0.mk (below_step (wb_ HB.out) hb); clear HO_0; clear HO_1; clear HO_7; clear HO_9; clear HB; have HO_0 := n0_; have HO_1 := n1_; have HO_7 := n2_; have HO_9 := n3_; have HO264 := n4_; have HB := n5_; clear n0_ n1_ n2_ n3_ n4_ n5_; (try clear hb); (try clear hb2); (try clear hk); (try clear hi); (try clear ho0)))
        (try simp only [Act.put, List.setIfInBounds_toArray, List.set_cons_zero, List.set_cons_succ])
        go_cut [105] (fun v105 wc => ∃ (kq : Nat) (x105_23 : Bool), v105 = .bool x105_23 ∧ Aside0 (demurrallaw21_DeduceTells.j1 kq t243 a2 t257 t258 t262 x105_23 = some r) ∧ Aside0 (kq ≤ kj7) ∧ Aside0 (Kd.V k28 28 wc w.heap.size (fun k_ => some k_ ≠ (v263 : Value).ownBlock) (.slice Ao10 t243.length co10) t243) ∧ Aside0 (Kd.R (Kd.int .i64) 3 wc w.heap.size (fun _ => True) v263 t262) ∧ Aside0 (Below w.heap.size w wc))
        case first =>
          have H := HC24.out
          clear HC24
          by_cases c26 : t250 = 0
          · rw [if_pos c26] at H
            have c26b0 : (t250 == 0) = true := beq_iff_eq.mpr c26
            have c26b1 : (t250 != 0) = false := bne_eq_false_iff_eq.mpr c26
            clear c26
            (first | rw [c26b0] | (simp only [i64_w, i32_w]; rw [c26b0]) | skip)
            by_cases c27 : t254 = 0
            · rw [if_pos c27] at H
              have c27b0 : (t254 == 0) = true := beq_iff_eq.mpr c27
              have c27b1 : (t254 != 0) = false := bne_eq_false_iff_eq.mpr c27
              clear c27
              replace H := Option.bind_eq_some_iff.mp H
              obtain ⟨t265, A280, H⟩ := H
              replace H : ((demurralref20_Numbers.f kj7 t249 t265).bind fun t268 => (if t268 = true then ((demurralref20_Numbers.f kj7 t253 t262).bind fun t269 => (if t269 = true then ((demurrallaw21_alive.f kj7).bind fun t270 => (demurrallaw21_DeduceTells.j1 kj7 t243 a2 t257 t258 t262 (!t270))) else (demurrallaw21_DeduceTells.j1 kj7 t243 a2 t257 t258 t262 true))) else (demurrallaw21_DeduceTells.j1 kj7 t243 a2 t257 t258 t262 true))) = some r := H
              have A28 := Aside0.mk A280
              clear A280
              replace H := Option.bind_eq_some_iff.mp H
              obtain ⟨t268, A290, H⟩ := H
              replace H : (if t268 = true then ((demurralref20_Numbers.f kj7 t253 t262).bind fun t269 => (if t269 = true then ((demurrallaw21_alive.f kj7).bind fun t270 => (demurrallaw21_DeduceTells.j1 kj7 t243 a2 t257 t258 t262 (!t270))) else (demurrallaw21_DeduceTells.j1 kj7 t243 a2 t257 t258 t262 true))) else (demurrallaw21_DeduceTells.j1 kj7 t243 a2 t257 t258 t262 true)) = some r := H
              have A29 := Aside0.mk A290
              clear A290
              by_cases c30 : t268 = true
              · subst c30
                have H1 : ((demurralref20_Numbers.f kj7 t253 t262).bind fun t269 => (if t269 = true then ((demurrallaw21_alive.f kj7).bind fun t270 => (demurrallaw21_DeduceTells.j1 kj7 t243 a2 t257 t258 t262 (!t270))) else (demurrallaw21_DeduceTells.j1 kj7 t243 a2 t257 t258 t262 true))) = some r := by rw [if_pos rfl] at H; exact H
                clear H
                have H := H1
                clear H1
                replace H := Option.bind_eq_some_iff.mp H
                obtain ⟨t269, A310, H⟩ := H
                replace H : (if t269 = true then ((demurrallaw21_alive.f kj7).bind fun t270 => (demurrallaw21_DeduceTells.j1 kj7 t243 a2 t257 t258 t262 (!t270))) else (demurrallaw21_DeduceTells.j1 kj7 t243 a2 t257 t258 t262 true)) = some r := H
                have A31 := Aside0.mk A310
                clear A310
                by_cases c32 : t269 = true
                · subst c32
                  have H1 : ((demurrallaw21_alive.f kj7).bind fun t270 => (demurrallaw21_DeduceTells.j1 kj7 t243 a2 t257 t258 t262 (!t270))) = some r := by rw [if_pos rfl] at H; exact H
                  clear H
                  have H := H1
                  clear H1
                  replace H := Option.bind_eq_some_iff.mp H
                  obtain ⟨t270, A330, H⟩ := H
                  replace H : (demurrallaw21_DeduceTells.j1 kj7 t243 a2 t257 t258 t262 (!t270)) = some r := H
                  have A33 := Aside0.mk A330
                  clear A330
                  have H' := Aside0.mk H
                  clear H
                  go_wp2_with (first | (go_at_call 30; (with_reducible refine (demurralref21_Step.calls kj7 _ _ t243 _ _ t246 t265 _ ?side1 ?side2 ?side3 ?side4 A28.out).mono ?_); (case side1 => repeat (first | exact (Kd.V_reads' HO_0.out).2.2 | (with_reducible refine Kd.C_alloc ?_ _) | (with_reducible refine Kd.C_drewN ?_ _) | (with_reducible refine Kd.C_drew ?_))); (case side2 => exact (Kd.V_reads' HO_0.out).2.1); (case side3 => repeat (first | exact (Kd.V_reads' HO_1.out).2.2 | (with_reducible refine Kd.C_alloc ?_ _) | (with_reducible refine Kd.C_drewN ?_ _) | (with_reducible refine Kd.C_drew ?_))); (case side4 => exact (Kd.V_reads' HO_1.out).2.1); rintro e w34 ⟨v266, rfl, ho0, hb⟩; have n0_ := Aside0.mk (Kd.V_elder' (kV_ HO_0.out) (Kd.R_base ho0) hb); have n1_ := Aside0.mk (Kd.V_elder' (kV_ HO_1.out) (Kd.R_base ho0) hb); have n2_ := Aside0.mk (Kd.R_elder' (kR_ HO_7.out) (Kd.R_base ho0) hb); have n3_ := Aside0.mk (Kd.R_elder' (kR_ HO_9.out) (Kd.R_base ho0) hb); have n4_ := Aside0.mk (Kd.R_elder' (kR_ HO264.out) (Kd.R_base ho0) hb); have n5_ := Aside0.mk (Kd.R_lower (Kd.R_new' (Kd.R_new' (Kd.R_new' ho0 (Kd.R_lt (kR_ HO_7.out))) (Kd.R_lt (kR_ HO_9.out))) (Kd.R_lt (kR_ HO264.out))) (below_size (wb_ HB.out))); have n6_ := Aside0.mk (below_step (wb_ HB.out) hb); clear HO_0; clear HO_1; clear HO_7; clear HO_9; clear HO264; clear HB; have HO_0 := n0_; have HO_1 := n1_; have HO_7 := n2_; have HO_9 := n3_; have HO264 := n4_; have HO267 := n5_; have HB := n6_; clear n0_ n1_ n2_ n3_ n4_ n5_ n6_; (try clear hb); (try clear hb2); (try clear hk); (try clear hi); (try clear ho0); obtain ⟨Ao35, co35, eo35⟩ := Kd.R_slice HO_7.out; subst eo35; obtain ⟨Ao36, co36, eo36⟩ := Kd.R_slice HO267.out; subst eo36) | (go_at_call 21; (with_reducible refine (demurralref20_Numbers.calls kj7 _ _ t249 _ _ t265 true _ ?side1 ?side2 ?side3 ?side4 A29.out).mono ?_); (case side1 => repeat (first | exact (Kd.R_reads' HO_7.out).2.2 | (with_reducible refine Kd.C_alloc ?_ _) | (with_reducible refine Kd.C_drewN ?_ _) | (with_reducible refine Kd.C_drew ?_))); (case side2 => exact (Kd.R_reads' HO_7.out).2.1); (case side3 => repeat (first | exact (Kd.R_reads' HO267.out).2.2 | (with_reducible refine Kd.C_alloc ?_ _) | (with_reducible refine Kd.C_drewN ?_ _) | (with_reducible refine Kd.C_drew ?_))); (case side4 => exact (Kd.R_reads' HO267.out).2.1); rintro e w' ⟨rfl, ⟨nd, rfl⟩⟩; obtain ⟨Ao37, co37, eo37⟩ := Kd.R_slice HO_9.out; subst eo37; obtain ⟨Ao38, co38, eo38⟩ := Kd.R_slice HO264.out; subst eo38) | (go_at_call 21; (with_reducible refine (demurralref20_Numbers.calls kj7 _ _ t253 _ _ t262 true _ ?side1 ?side2 ?side3 ?side4 A31.out).mono ?_); (case side1 => repeat (first | exact (Kd.R_reads' HO_9.out).2.2 | (with_reducible refine Kd.C_alloc ?_ _) | (with_reducible refine Kd.C_drewN ?_ _) | (with_reducible refine Kd.C_drew ?_))); (case side2 => exact (Kd.R_reads' HO_9.out).2.1); (case side3 => repeat (first | exact (Kd.R_reads' HO264.out).2.2 | (with_reducible refine Kd.C_alloc ?_ _) | (with_reducible refine Kd.C_drewN ?_ _) | (with_reducible refine Kd.C_drew ?_))); (case side4 => exact (Kd.R_reads' HO264.out).2.1); rintro e w' ⟨rfl, ⟨nd, rfl⟩⟩) | (go_at_call 19; (with_reducible refine (demurrallaw21_alive.calls kj7  t270 _ A33.out).mono ?_); rintro e w39 ⟨rfl, hb⟩; have n0_ := Aside0.mk (Kd.V_below (kV_ HO_0.out) hb); have n1_ := Aside0.mk (Kd.V_below (kV_ HO_1.out) hb); have n2_ := Aside0.mk (Kd.R_below (kR_ HO_7.out) hb); have n3_ := Aside0.mk (Kd.R_below (kR_ HO_9.out) hb); have n4_ := Aside0.mk (Kd.R_below (kR_ HO264.out) hb); have n5_ := Aside0.mk (Kd.R_below (kR_ HO267.out) hb); have n6_ := Aside0.mk (below_step (wb_ HB.out) hb); clear HO_0; clear HO_1; clear HO_7; clear HO_9; clear HO264; clear HO267; clear HB; have HO_0 := n0_; have HO_1 := n1_; have HO_7 := n2_; have HO_9 := n3_; have HO264 := n4_; have HO267 := n5_; have HB := n6_; clear n0_ n1_ n2_ n3_ n4_ n5_ n6_; (try clear hb); (try clear hb2); (try clear hk); (try clear hi)))
                  go_meet
                  case rel => exact ⟨_, (!t270), (by first | rfl | (simp; done) | (simp [*]; done)), H', ⟨by have := HJ7.out; first | omega | exact Nat.le_refl _⟩, ⟨by (with_reducible repeat (first | apply Kd.V_alloc | apply Kd.V_drewN | apply Kd.V_drew)); exact Kd.V_mono HO_0.out (fun _ hk => hk.1.2)⟩, ⟨by (with_reducible repeat (first | apply Kd.R_alloc | apply Kd.R_drewN | apply Kd.R_drew)); exact Kd.R_mono HO264.out (fun _ hk => trivial)⟩, ⟨by repeat (first | (with_reducible first | exact HB.out | apply below_alloc | apply pw_below_drewN | apply below_drew1) | exact HB.out)⟩⟩
                · replace c32 := Bool.eq_false_iff.mpr c32
                  subst c32
                  have H1 : (demurrallaw21_DeduceTells.j1 kj7 t243 a2 t257 t258 t262 true) = some r := by rw [if_neg (show ¬ (false = true) by decide)] at H; exact H
                  clear H
                  have H := H1
                  clear H1
                  have H' := Aside0.mk H
                  clear H
                  go_wp2_with (first | (go_at_call 30; (with_reducible refine (demurralref21_Step.calls kj7 _ _ t243 _ _ t246 t265 _ ?side1 ?side2 ?side3 ?side4 A28.out).mono ?_); (case side1 => repeat (first | exact (Kd.V_reads' HO_0.out).2.2 | (with_reducible refine Kd.C_alloc ?_ _) | (with_reducible refine Kd.C_drewN ?_ _) | (with_reducible refine Kd.C_drew ?_))); (case side2 => exact (Kd.V_reads' HO_0.out).2.1); (case side3 => repeat (first | exact (Kd.V_reads' HO_1.out).2.2 | (with_reducible refine Kd.C_alloc ?_ _) | (with_reducible refine Kd.C_drewN ?_ _) | (with_reducible refine Kd.C_drew ?_))); (case side4 => exact (Kd.V_reads' HO_1.out).2.1); rintro e w40 ⟨v266, rfl, ho0, hb⟩; have n0_ := Aside0.mk (Kd.V_elder' (kV_ HO_0.out) (Kd.R_base ho0) hb); have n1_ := Aside0.mk (Kd.V_elder' (kV_ HO_1.out) (Kd.R_base ho0) hb); have n2_ := Aside0.mk (Kd.R_elder' (kR_ HO_7.out) (Kd.R_base ho0) hb); have n3_ := Aside0.mk (Kd.R_elder' (kR_ HO_9.out) (Kd.R_base ho0) hb); have n4_ := Aside0.mk (Kd.R_elder' (kR_ HO264.out) (Kd.R_base ho0) hb); have n5_ := Aside0.mk (Kd.R_lower (Kd.R_new' (Kd.R_new' (Kd.R_new' ho0 (Kd.R_lt (kR_ HO_7.out))) (Kd.R_lt (kR_ HO_9.out))) (Kd.R_lt (kR_ HO264.out))) (below_size (wb_ HB.out))); have n6_ := Aside0.mk (below_step (wb_ HB.out) hb); clear HO_0; clear HO_1; clear HO_7; clear HO_9; clear HO264; clear HB; have HO_0 := n0_; have HO_1 := n1_; have HO_7 := n2_; have HO_9 := n3_; have HO264 := n4_; have HO267 := n5_; have HB := n6_; clear n0_ n1_ n2_ n3_ n4_ n5_ n6_; (try clear hb); (try clear hb2); (try clear hk); (try clear hi); (try clear ho0); obtain ⟨Ao41, co41, eo41⟩ := Kd.R_slice HO_7.out; subst eo41; obtain ⟨Ao42, co42, eo42⟩ := Kd.R_slice HO267.out; subst eo42) | (go_at_call 21; (with_reducible refine (demurralref20_Numbers.calls kj7 _ _ t249 _ _ t265 true _ ?side1 ?side2 ?side3 ?side4 A29.out).mono ?_); (case side1 => repeat (first | exact (Kd.R_reads' HO_7.out).2.2 | (with_reducible refine Kd.C_alloc ?_ _) | (with_reducible refine Kd.C_drewN ?_ _) | (with_reducible refine Kd.C_drew ?_))); (case side2 => exact (Kd.R_reads' HO_7.out).2.1); (case side3 => repeat (first | exact (Kd.R_reads' HO267.out).2.2 | (with_reducible refine Kd.C_alloc ?_ _) | (with_reducible refine Kd.C_drewN ?_ _) | (with_reducible refine Kd.C_drew ?_))); (case side4 => exact (Kd.R_reads' HO267.out).2.1); rintro e w' ⟨rfl, ⟨nd, rfl⟩⟩; obtain ⟨Ao43, co43, eo43⟩ := Kd.R_slice HO_9.out; subst eo43; obtain ⟨Ao44, co44, eo44⟩ := Kd.R_slice HO264.out; subst eo44) | (go_at_call 21; (with_reducible refine (demurralref20_Numbers.calls kj7 _ _ t253 _ _ t262 false _ ?side1 ?side2 ?side3 ?side4 A31.out).mono ?_); (case side1 => repeat (first | exact (Kd.R_reads' HO_9.out).2.2 | (with_reducible refine Kd.C_alloc ?_ _) | (with_reducible refine Kd.C_drewN ?_ _) | (with_reducible refine Kd.C_drew ?_))); (case side2 => exact (Kd.R_reads' HO_9.out).2.1); (case side3 => repeat (first | exact (Kd.R_reads' HO264.out).2.2 | (with_reducible refine Kd.C_alloc ?_ _) | (with_reducible refine Kd.C_drewN ?_ _) | (with_reducible refine Kd.C_drew ?_))); (case side4 => exact (Kd.R_reads' HO264.out).2.1); rintro e w' ⟨rfl, ⟨nd, rfl⟩⟩))
                  go_meet
                  case rel => exact ⟨_, (true), (by first | rfl | (simp; done) | (simp [*]; done)), H', ⟨by have := HJ7.out; first | omega | exact Nat.le_refl _⟩, ⟨by (with_reducible repeat (first | apply Kd.V_alloc | apply Kd.V_drewN | apply Kd.V_drew)); exact Kd.V_mono HO_0.out (fun _ hk => hk.1.2)⟩, ⟨by (with_reducible repeat (first | apply Kd.R_alloc | apply Kd.R_drewN | apply Kd.R_drew)); exact Kd.R_mono HO264.out (fun _ hk => trivial)⟩, ⟨by repeat (first | (with_reducible first | exact HB.out | apply below_alloc | apply pw_below_drewN | apply below_drew1) | exact HB.out)⟩⟩
              · replace c30 := Bool.eq_false_iff.mpr c30
                subst c30
                have H1 : (demurrallaw21_DeduceTells.j1 kj7 t243 a2 t257 t258 t262 true) = some r := by rw [if_neg (show ¬ (false = true) by decide)] at H; exact H
                clear H
                have H := H1
                clear H1
                have H' := Aside0.mk H
                clear H
                go_wp2_with (first | (go_at_call 30; (with_reducible refine (demurralref21_Step.calls kj7 _ _ t243 _ _ t246 t265 _ ?side1 ?side2 ?side3 ?side4 A28.out).mono ?_); (case side1 => repeat (first | exact (Kd.V_reads' HO_0.out).2.2 | (with_reducible refine Kd.C_alloc ?_ _) | (with_reducible refine Kd.C_drewN ?_ _) | (with_reducible refine Kd.C_drew ?_))); (case side2 => exact (Kd.V_reads' HO_0.out).2.1); (case side3 => repeat (first | exact (Kd.V_reads' HO_1.out).2.2 | (with_reducible refine Kd.C_alloc ?_ _) | (with_reducible refine Kd.C_drewN ?_ _) | (with_reducible refine Kd.C_drew ?_))); (case side4 => exact (Kd.V_reads' HO_1.out).2.1); rintro e w45 ⟨v266, rfl, ho0, hb⟩; have n0_ := Aside0.mk (Kd.V_elder' (kV_ HO_0.out) (Kd.R_base ho0) hb); have n1_ := Aside0.mk (Kd.V_elder' (kV_ HO_1.out) (Kd.R_base ho0) hb); have n2_ := Aside0.mk (Kd.R_elder' (kR_ HO_7.out) (Kd.R_base ho0) hb); have n3_ := Aside0.mk (Kd.R_elder' (kR_ HO_9.out) (Kd.R_base ho0) hb); have n4_ := Aside0.mk (Kd.R_elder' (kR_ HO264.out) (Kd.R_base ho0) hb); have n5_ := Aside0.mk (Kd.R_lower (Kd.R_new' (Kd.R_new' (Kd.R_new' ho0 (Kd.R_lt (kR_ HO_7.out))) (Kd.R_lt (kR_ HO_9.out))) (Kd.R_lt (kR_ HO264.out))) (below_size (wb_ HB.out))); have n6_ := Aside0.mk (below_step (wb_ HB.out) hb); clear HO_0; clear HO_1; clear HO_7; clear HO_9; clear HO264; clear HB; have HO_0 := n0_; have HO_1 := n1_; have HO_7 := n2_; have HO_9 := n3_; have HO264 := n4_; have HO267 := n5_; have HB := n6_; clear n0_ n1_ n2_ n3_ n4_ n5_ n6_; (try clear hb); (try clear hb2); (try clear hk); (try clear hi); (try clear ho0); obtain ⟨Ao46, co46, eo46⟩ := Kd.R_slice HO_7.out; subst eo46; obtain ⟨Ao47, co47, eo47⟩ := Kd.R_slice HO267.out; subst eo47) | (go_at_call 21; (with_reducible refine (demurralref20_Numbers.calls kj7 _ _ t249 _ _ t265 false _ ?side1 ?side2 ?side3 ?side4 A29.out).mono ?_); (case side1 => repeat (first | exact (Kd.R_reads' HO_7.out).2.2 | (with_reducible refine Kd.C_alloc ?_ _) | (with_reducible refine Kd.C_drewN ?_ _) | (with_reducible refine Kd.C_drew ?_))); (case side2 => exact (Kd.R_reads' HO_7.out).2.1); (case side3 => repeat (first | exact (Kd.R_reads' HO267.out).2.2 | (with_reducible refine Kd.C_alloc ?_ _) | (with_reducible refine Kd.C_drewN ?_ _) | (with_reducible refine Kd.C_drew ?_))); (case side4 => exact (Kd.R_reads' HO267.out).2.1); rintro e w' ⟨rfl, ⟨nd, rfl⟩⟩))
                go_meet
                case rel => exact ⟨_, (true), (by first | rfl | (simp; done) | (simp [*]; done)), H', ⟨by have := HJ7.out; first | omega | exact Nat.le_refl _⟩, ⟨by (with_reducible repeat (first | apply Kd.V_alloc | apply Kd.V_drewN | apply Kd.V_drew)); exact Kd.V_mono HO_0.out (fun _ hk => hk.1.2)⟩, ⟨by (with_reducible repeat (first | apply Kd.R_alloc | apply Kd.R_drewN | apply Kd.R_drew)); exact Kd.R_mono HO264.out (fun _ hk => trivial)⟩, ⟨by repeat (first | (with_reducible first | exact HB.out | apply below_alloc | apply pw_below_drewN | apply below_drew1) | exact HB.out)⟩⟩
            · rw [if_neg c27] at H
              have c27b0 : (t254 == 0) = false := beq_eq_false_iff_ne.mpr c27
              have c27b1 : (t254 != 0) = true := bne_iff_ne.mpr c27
              have H' := Aside0.mk H
              clear H
              go_wp2
              go_meet
              case rel => exact ⟨_, (true), (by first | rfl | (simp; done) | (simp [*]; done)), H', ⟨by have := HJ7.out; first | omega | exact Nat.le_refl _⟩, ⟨by (with_reducible repeat (first | apply Kd.V_alloc | apply Kd.V_drewN | apply Kd.V_drew)); exact Kd.V_mono HO_0.out (fun _ hk => hk.2)⟩, ⟨by (with_reducible repeat (first | apply Kd.R_alloc | apply Kd.R_drewN | apply Kd.R_drew)); exact Kd.R_mono HO264.out (fun _ hk => trivial)⟩, ⟨by repeat (first | (with_reducible first | exact HB.out | apply below_alloc | apply pw_below_drewN | apply below_drew1) | exact HB.out)⟩⟩
          · rw [if_neg c26] at H
            have c26b0 : (t250 == 0) = false := beq_eq_false_iff_ne.mpr c26
            have c26b1 : (t250 != 0) = true := bne_iff_ne.mpr c26
            (first | rw [c26b0] | (simp only [i64_w, i32_w]; rw [c26b0]) | skip)
            have H' := Aside0.mk H
            clear H
            go_wp2
            go_meet
            case rel => exact ⟨_, (true), (by first | rfl | (simp; done) | (simp [*]; done)), H', ⟨by have := HJ7.out; first | omega | exact Nat.le_refl _⟩, ⟨by (with_reducible repeat (first | apply Kd.V_alloc | apply Kd.V_drewN | apply Kd.V_drew)); exact Kd.V_mono HO_0.out (fun _ hk => hk.2)⟩, ⟨by (with_reducible repeat (first | apply Kd.R_alloc | apply Kd.R_drewN | apply Kd.R_drew)); exact Kd.R_mono HO264.out (fun _ hk => trivial)⟩, ⟨by repeat (first | (with_reducible first | exact HB.out | apply below_alloc | apply pw_below_drewN | apply below_drew1) | exact HB.out)⟩⟩
        case rest =>
          clear HC24
          try clear c1
          try clear c2
          try clear p2
          try clear c3
          try clear c7
          try clear c16
          try clear c17
          try clear c18
          try clear c20
          try clear c22
          try clear c22b0
          try clear c22b1
          try clear c26
          try clear c26b0
          try clear c26b1
          try clear c27
          try clear c27b0
          try clear c27b1
          try clear c28
          try clear c29
          try clear c30
          try clear c32
          try clear p2
          obtain ⟨kq, x105_23, rfl, HA, HJ23, HO_0, HO_14, HB⟩ := hcut
          cases kq with
          | zero => exact absurd HA.out (by simp [demurrallaw21_DeduceTells.j1])
          | succ kj23 =>
            have H := HA.out
            clear HA
            simp only [demurrallaw21_DeduceTells.j1] at H
            by_cases c48 : x105_23 = true
            · subst c48
              have H1 : (some false) = some r := by rw [if_pos rfl] at H; exact H
              clear H
              have H := H1
              clear H1
              obtain rfl := Option.some.inj H
              go_wp2
              go_ret
              exact ⟨by first | rfl | (simp [errW_none, errW_some] <;> rfl) | (simp [*, errW_none, errW_some] <;> rfl), by repeat (first | (with_reducible first | exact HB.out | apply below_alloc | apply pw_below_drewN | apply below_drew1) | exact HB.out)⟩
            · replace c48 := Bool.eq_false_iff.mpr c48
              subst c48
              have H1 : (if a2 < 0 then (if t258 = 5 then (some (!t257)) else (some false)) else (if a2 ≥ (t243.length : Int) then (if t258 = 5 then (some (!t257)) else (some false)) else (if t258 = 0 then ((demurralref20_In.f kj23 t262 a2).bind fun t271 => (some (t257 == t271))) else (some false)))) = some r := by rw [if_neg (show ¬ (false = true) by decide)] at H; exact H
              clear H
              have H := H1
              clear H1
              by_cases c49 : a2 < 0
              · rw [if_pos c49] at H
                have c49b0 : decide (a2 < 0) = true := decide_eq_true c49
                clear c49
                by_cases c50 : t258 = 5
                · rw [if_pos c50] at H
                  have c50b0 : (t258 == 5) = true := beq_iff_eq.mpr c50
                  have c50b1 : (t258 != 5) = false := bne_eq_false_iff_eq.mpr c50
                  clear c50
                  obtain rfl := Option.some.inj H
                  go_wp2
                  go_ret
                  exact ⟨by first | rfl | (simp [errW_none, errW_some] <;> rfl) | (simp [*, errW_none, errW_some] <;> rfl), by repeat (first | (with_reducible first | exact HB.out | apply below_alloc | apply pw_below_drewN | apply below_drew1) | exact HB.out)⟩
                · rw [if_neg c50] at H
                  have c50b0 : (t258 == 5) = false := beq_eq_false_iff_ne.mpr c50
                  have c50b1 : (t258 != 5) = true := bne_iff_ne.mpr c50
                  obtain rfl := Option.some.inj H
                  go_wp2
                  go_ret
                  exact ⟨by first | rfl | (simp [errW_none, errW_some] <;> rfl) | (simp [*, errW_none, errW_some] <;> rfl), by repeat (first | (with_reducible first | exact HB.out | apply below_alloc | apply pw_below_drewN | apply below_drew1) | exact HB.out)⟩
              · rw [if_neg c49] at H
                have c49b0 : decide (a2 < 0) = false := decide_eq_false c49
                clear c49
                by_cases c51 : a2 ≥ (t243.length : Int)
                · rw [if_pos c51] at H
                  have c51b0 : decide ((t243.length : Int) ≤ a2) = true := decide_eq_true c51
                  clear c51
                  by_cases c52 : t258 = 5
                  · rw [if_pos c52] at H
                    have c52b0 : (t258 == 5) = true := beq_iff_eq.mpr c52
                    have c52b1 : (t258 != 5) = false := bne_eq_false_iff_eq.mpr c52
                    clear c52
                    obtain rfl := Option.some.inj H
                    go_wp2
                    go_ret
                    exact ⟨by first | rfl | (simp [errW_none, errW_some] <;> rfl) | (simp [*, errW_none, errW_some] <;> rfl), by repeat (first | (with_reducible first | exact HB.out | apply below_alloc | apply pw_below_drewN | apply below_drew1) | exact HB.out)⟩
                  · rw [if_neg c52] at H
                    have c52b0 : (t258 == 5) = false := beq_eq_false_iff_ne.mpr c52
                    have c52b1 : (t258 != 5) = true := bne_iff_ne.mpr c52
                    obtain rfl := Option.some.inj H
                    go_wp2
                    go_ret
                    exact ⟨by first | rfl | (simp [errW_none, errW_some] <;> rfl) | (simp [*, errW_none, errW_some] <;> rfl), by repeat (first | (with_reducible first | exact HB.out | apply below_alloc | apply pw_below_drewN | apply below_drew1) | exact HB.out)⟩
                · rw [if_neg c51] at H
                  have c51b0 : decide ((t243.length : Int) ≤ a2) = false := decide_eq_false c51
                  clear c51
                  by_cases c53 : t258 = 0
                  · rw [if_pos c53] at H
                    have c53b0 : (t258 == 0) = true := beq_iff_eq.mpr c53
                    have c53b1 : (t258 != 0) = false := bne_eq_false_iff_eq.mpr c53
                    clear c53
                    replace H := Option.bind_eq_some_iff.mp H
                    obtain ⟨t271, A540, H⟩ := H
                    replace H : (some (t257 == t271)) = some r := H
                    have A54 := Aside0.mk A540
                    clear A540
                    obtain rfl := Option.some.inj H
                    obtain ⟨Ao55, co55, eo55⟩ := Kd.R_slice HO_14.out
                    subst eo55
                    go_wp2_with (first | (go_at_call 31; (with_reducible refine (demurralref20_In.calls kj23 _ _ t262 a2 t271 _ ?side1 ?side2 A54.out).mono ?_); (case side1 => repeat (first | exact (Kd.R_reads' HO_14.out).2.2 | (with_reducible refine Kd.C_alloc ?_ _) | (with_reducible refine Kd.C_drewN ?_ _) | (with_reducible refine Kd.C_drew ?_))); (case side2 => exact (Kd.R_reads' HO_14.out).2.1); rintro e w' ⟨rfl, ⟨nd, rfl⟩⟩))
                    go_ret
                    exact ⟨by first | rfl | (simp [errW_none, errW_some] <;> rfl) | (simp [*, errW_none, errW_some] <;> rfl), by repeat (first | (with_reducible first | exact HB.out | apply below_alloc | apply pw_below_drewN | apply below_drew1) | exact HB.out)⟩
                  · rw [if_neg c53] at H
                    have c53b0 : (t258 == 0) = false := beq_eq_false_iff_ne.mpr c53
                    have c53b1 : (t258 != 0) = true := bne_iff_ne.mpr c53
                    obtain rfl := Option.some.inj H
                    go_wp2
                    go_ret
                    exact ⟨by first | rfl | (simp [errW_none, errW_some] <;> rfl) | (simp [*, errW_none, errW_some] <;> rfl), by repeat (first | (with_reducible first | exact HB.out | apply below_alloc | apply pw_below_drewN | apply below_drew1) | exact HB.out)⟩
      · rw [if_neg c22] at H
        have c22b0 : (x13_7 == 0) = false := beq_eq_false_iff_ne.mpr c22
        have c22b1 : (x13_7 != 0) = true := bne_iff_ne.mpr c22
        replace H := Option.bind_eq_some_iff.mp H
        obtain ⟨t261, A560, H⟩ := H
        replace H : (if t261 = true then (if t250 = x13_7 then (if t254 = x13_7 then (if t258 = x13_7 then (if (wrap64 ((t249.length : Int) + (t253.length : Int))) = 0 then (some (!t257)) else (some false)) else (some false)) else (some false)) else (some false)) else (some false)) = some r := H
        have A56 := Aside0.mk A560
        clear A560
        by_cases c57 : t261 = true
        · subst c57
          have H1 : (if t250 = x13_7 then (if t254 = x13_7 then (if t258 = x13_7 then (if (wrap64 ((t249.length : Int) + (t253.length : Int))) = 0 then (some (!t257)) else (some false)) else (some false)) else (some false)) else (some false)) = some r := by rw [if_pos rfl] at H; exact H
          clear H
          have H := H1
          clear H1
          by_cases c58 : t250 = x13_7
          · rw [if_pos c58] at H
            have c58b0 : (t250 == x13_7) = true := beq_iff_eq.mpr c58
            have c58b1 : (t250 != x13_7) = false := bne_eq_false_iff_eq.mpr c58
            clear c58
            by_cases c59 : t254 = x13_7
            · rw [if_pos c59] at H
              have c59b0 : (t254 == x13_7) = true := beq_iff_eq.mpr c59
              have c59b1 : (t254 != x13_7) = false := bne_eq_false_iff_eq.mpr c59
              clear c59
              by_cases c60 : t258 = x13_7
              · rw [if_pos c60] at H
                have c60b0 : (t258 == x13_7) = true := beq_iff_eq.mpr c60
                have c60b1 : (t258 != x13_7) = false := bne_eq_false_iff_eq.mpr c60
                clear c60
                by_cases c61 : (wrap64 ((t249.length : Int) + (t253.length : Int))) = 0
                · rw [if_pos c61] at H
                  have c61b0 : ((wrap64 ((t249.length : Int) + (t253.length : Int))) == 0) = true := beq_iff_eq.mpr c61
                  have c61b1 : ((wrap64 ((t249.length : Int) + (t253.length : Int))) != 0) = false := bne_eq_false_iff_eq.mpr c61
                  clear c61
                  obtain rfl := Option.some.inj H
                  go_wp2_with (first | ((with_reducible refine gate_callee (f := 19) rfl ?_); refine goesL_ (some 51) rfl rfl Try.func19 (by kernel_rfl) rfl #[] rfl (by (try simp only [List.map_toArray, List.map_cons, List.map_nil]); first | done | rfl | (simp only [List.length_drop, List.length_take]; rfl) | (simp [Act.eval]; omega)) ?_; (with_reducible refine (demurrallaw21_alive.calls kj7  true _ A56.out).mono ?_); rintro e w62 ⟨rfl, hb⟩; refine ⟨_, rfl, ?_⟩; have n0_ := Aside0.mk (Kd.V_below (kV_ HO_0.out) hb); have n1_ := Aside0.mk (Kd.V_below (kV_ HO_1.out) hb); have n2_ := Aside0.mk (Kd.R_below (kR_ HO_7.out) hb); have n3_ := Aside0.mk (Kd.R_below (kR_ HO_9.out) hb); have n4_ := Aside0.mk (below_step (wb_ HB.out) hb); clear HO_0; clear HO_1; clear HO_7; clear HO_9; clear HB; have HO_0 := n0_; have HO_1 := n1_; have HO_7 := n2_; have HO_9 := n3_; have HB := n4_; clear n0_ n1_ n2_ n3_ n4_; (try clear hb); (try clear hb2); (try clear hk); (try clear hi); obtain ⟨Ao63, co63, eo63⟩ := Kd.R_slice HO_7.out; subst eo63; obtain ⟨Ao64, co64, eo64⟩ := Kd.R_slice HO_9.out; subst eo64))
                  go_ret
                  exact ⟨by first | rfl | (simp [errW_none, errW_some] <;> rfl) | (simp [*, errW_none, errW_some] <;> rfl), by repeat (first | (with_reducible first | exact HB.out | apply below_alloc | apply pw_below_drewN | apply below_drew1) | exact HB.out)⟩
                · rw [if_neg c61] at H
                  have c61b0 : ((wrap64 ((t249.length : Int) + (t253.length : Int))) == 0) = false := beq_eq_false_iff_ne.mpr c61
                  have c61b1 : ((wrap64 ((t249.length : Int) + (t253.length : Int))) != 0) = true := bne_iff_ne.mpr c61
                  obtain rfl := Option.some.inj H
                  go_wp2_with (first | ((with_reducible refine gate_callee (f := 19) rfl ?_); refine goesL_ (some 51) rfl rfl Try.func19 (by kernel_rfl) rfl #[] rfl (by (try simp only [List.map_toArray, List.map_cons, List.map_nil]); first | done | rfl | (simp only [List.length_drop, List.length_take]; rfl) | (simp [Act.eval]; omega)) ?_; (with_reducible refine (demurrallaw21_alive.calls kj7  true _ A56.out).mono ?_); rintro e w65 ⟨rfl, hb⟩; refine ⟨_, rfl, ?_⟩; have n0_ := Aside0.mk (Kd.V_below (kV_ HO_0.out) hb); have n1_ := Aside0.mk (Kd.V_below (kV_ HO_1.out) hb); have n2_ := Aside0.mk (Kd.R_below (kR_ HO_7.out) hb); have n3_ := Aside0.mk (Kd.R_below (kR_ HO_9.out) hb); have n4_ := Aside0.mk (below_step (wb_ HB.out) hb); clear HO_0; clear HO_1; clear HO_7; clear HO_9; clear HB; have HO_0 := n0_; have HO_1 := n1_; have HO_7 := n2_; have HO_9 := n3_; have HB := n4_; clear n0_ n1_ n2_ n3_ n4_; (try clear hb); (try clear hb2); (try clear hk); (try clear hi); obtain ⟨Ao66, co66, eo66⟩ := Kd.R_slice HO_7.out; subst eo66; obtain ⟨Ao67, co67, eo67⟩ := Kd.R_slice HO_9.out; subst eo67))
                  go_ret
                  exact ⟨by first | rfl | (simp [errW_none, errW_some] <;> rfl) | (simp [*, errW_none, errW_some] <;> rfl), by repeat (first | (with_reducible first | exact HB.out | apply below_alloc | apply pw_below_drewN | apply below_drew1) | exact HB.out)⟩
              · rw [if_neg c60] at H
                have c60b0 : (t258 == x13_7) = false := beq_eq_false_iff_ne.mpr c60
                have c60b1 : (t258 != x13_7) = true := bne_iff_ne.mpr c60
                obtain rfl := Option.some.inj H
                go_wp2_with (first | ((with_reducible refine gate_callee (f := 19) rfl ?_); refine goesL_ (some 51) rfl rfl Try.func19 (by kernel_rfl) rfl #[] rfl (by (try simp only [List.map_toArray, List.map_cons, List.map_nil]); first | done | rfl | (simp only [List.length_drop, List.length_take]; rfl) | (simp [Act.eval]; omega)) ?_; (with_reducible refine (demurrallaw21_alive.calls kj7  true _ A56.out).mono ?_); rintro e w68 ⟨rfl, hb⟩; refine ⟨_, rfl, ?_⟩; have n0_ := Aside0.mk (Kd.V_below (kV_ HO_0.out) hb); have n1_ := Aside0.mk (Kd.V_below (kV_ HO_1.out) hb); have n2_ := Aside0.mk (Kd.R_below (kR_ HO_7.out) hb); have n3_ := Aside0.mk (Kd.R_below (kR_ HO_9.out) hb); have n4_ := Aside0.mk (below_step (wb_ HB.out) hb); clear HO_0; clear HO_1; clear HO_7; clear HO_9; clear HB; have HO_0 := n0_; have HO_1 := n1_; have HO_7 := n2_; have HO_9 := n3_; have HB := n4_; clear n0_ n1_ n2_ n3_ n4_; (try clear hb); (try clear hb2); (try clear hk); (try clear hi)))
                go_ret
                exact ⟨by first | rfl | (simp [errW_none, errW_some] <;> rfl) | (simp [*, errW_none, errW_some] <;> rfl), by repeat (first | (with_reducible first | exact HB.out | apply below_alloc | apply pw_below_drewN | apply below_drew1) | exact HB.out)⟩
            · rw [if_neg c59] at H
              have c59b0 : (t254 == x13_7) = false := beq_eq_false_iff_ne.mpr c59
              have c59b1 : (t254 != x13_7) = true := bne_iff_ne.mpr c59
              obtain rfl := Option.some.inj H
              go_wp2_with (first | ((with_reducible refine gate_callee (f := 19) rfl ?_); refine goesL_ (some 51) rfl rfl Try.func19 (by kernel_rfl) rfl #[] rfl (by (try simp only [List.map_toArray, List.map_cons, List.map_nil]); first | done | rfl | (simp only [List.length_drop, List.length_take]; rfl) | (simp [Act.eval]; omega)) ?_; (with_reducible refine (demurrallaw21_alive.calls kj7  true _ A56.out).mono ?_); rintro e w69 ⟨rfl, hb⟩; refine ⟨_, rfl, ?_⟩; have n0_ := Aside0.mk (Kd.V_below (kV_ HO_0.out) hb); have n1_ := Aside0.mk (Kd.V_below (kV_ HO_1.out) hb); have n2_ := Aside0.mk (Kd.R_below (kR_ HO_7.out) hb); have n3_ := Aside0.mk (Kd.R_below (kR_ HO_9.out) hb); have n4_ := Aside0.mk (below_step (wb_ HB.out) hb); clear HO_0; clear HO_1; clear HO_7; clear HO_9; clear HB; have HO_0 := n0_; have HO_1 := n1_; have HO_7 := n2_; have HO_9 := n3_; have HB := n4_; clear n0_ n1_ n2_ n3_ n4_; (try clear hb); (try clear hb2); (try clear hk); (try clear hi)))
              go_ret
              exact ⟨by first | rfl | (simp [errW_none, errW_some] <;> rfl) | (simp [*, errW_none, errW_some] <;> rfl), by repeat (first | (with_reducible first | exact HB.out | apply below_alloc | apply pw_below_drewN | apply below_drew1) | exact HB.out)⟩
          · rw [if_neg c58] at H
            have c58b0 : (t250 == x13_7) = false := beq_eq_false_iff_ne.mpr c58
            have c58b1 : (t250 != x13_7) = true := bne_iff_ne.mpr c58
            obtain rfl := Option.some.inj H
            go_wp2_with (first | ((with_reducible refine gate_callee (f := 19) rfl ?_); refine goesL_ (some 51) rfl rfl Try.func19 (by kernel_rfl) rfl #[] rfl (by (try simp only [List.map_toArray, List.map_cons, List.map_nil]); first | done | rfl | (simp only [List.length_drop, List.length_take]; rfl) | (simp [Act.eval]; omega)) ?_; (with_reducible refine (demurrallaw21_alive.calls kj7  true _ A56.out).mono ?_); rintro e w70 ⟨rfl, hb⟩; refine ⟨_, rfl, ?_⟩; have n0_ := Aside0.mk (Kd.V_below (kV_ HO_0.out) hb); have n1_ := Aside0.mk (Kd.V_below (kV_ HO_1.out) hb); have n2_ := Aside0.mk (Kd.R_below (kR_ HO_7.out) hb); have n3_ := Aside0.mk (Kd.R_below (kR_ HO_9.out) hb); have n4_ := Aside0.mk (below_step (wb_ HB.out) hb); clear HO_0; clear HO_1; clear HO_7; clear HO_9; clear HB; have HO_0 := n0_; have HO_1 := n1_; have HO_7 := n2_; have HO_9 := n3_; have HB := n4_; clear n0_ n1_ n2_ n3_ n4_; (try clear hb); (try clear hb2); (try clear hk); (try clear hi)))
            go_ret
            exact ⟨by first | rfl | (simp [errW_none, errW_some] <;> rfl) | (simp [*, errW_none, errW_some] <;> rfl), by repeat (first | (with_reducible first | exact HB.out | apply below_alloc | apply pw_below_drewN | apply below_drew1) | exact HB.out)⟩
        · replace c57 := Bool.eq_false_iff.mpr c57
          subst c57
          have H1 : (some false) = some r := by rw [if_neg (show ¬ (false = true) by decide)] at H; exact H
          clear H
          have H := H1
          clear H1
          obtain rfl := Option.some.inj H
          go_wp2_with (first | ((with_reducible refine gate_callee (f := 19) rfl ?_); refine goesL_ (some 51) rfl rfl Try.func19 (by kernel_rfl) rfl #[] rfl (by (try simp only [List.map_toArray, List.map_cons, List.map_nil]); first | done | rfl | (simp only [List.length_drop, List.length_take]; rfl) | (simp [Act.eval]; omega)) ?_; (with_reducible refine (demurrallaw21_alive.calls kj7  false _ A56.out).mono ?_); rintro e w71 ⟨rfl, hb⟩; refine ⟨_, rfl, ?_⟩; have n0_ := Aside0.mk (Kd.V_below (kV_ HO_0.out) hb); have n1_ := Aside0.mk (Kd.V_below (kV_ HO_1.out) hb); have n2_ := Aside0.mk (Kd.R_below (kR_ HO_7.out) hb); have n3_ := Aside0.mk (Kd.R_below (kR_ HO_9.out) hb); have n4_ := Aside0.mk (below_step (wb_ HB.out) hb); clear HO_0; clear HO_1; clear HO_7; clear HO_9; clear HB; have HO_0 := n0_; have HO_1 := n1_; have HO_7 := n2_; have HO_9 := n3_; have HB := n4_; clear n0_ n1_ n2_ n3_ n4_; (try clear hb); (try clear hb2); (try clear hk); (try clear hi)))
          go_ret
          exact ⟨by first | rfl | (simp [errW_none, errW_some] <;> rfl) | (simp [*, errW_none, errW_some] <;> rfl), by repeat (first | (with_reducible first | exact HB.out | apply below_alloc | apply pw_below_drewN | apply below_drew1) | exact HB.out)⟩

end Go.Proofs.Ytenmmeehgnkcpaa.Q
