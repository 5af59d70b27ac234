-- PRINTED by print.py (a twelfth state) out of the translation. Not trusted: Lean checks it.
import Derived.Test.YtdbbhijicmeckaaQx0
import Derived.Test.YtdbbhijicmeckaaQx119
namespace Go.Proofs.Ytdbbhijicmeckaa.Q
open Go.RowKit Go.Proofs.YtdbbhijicmeckaaW.PrintWords Go.Proofs.YtdbbhijicmeckaaW.PrintLast Go.Proofs.YtdbbhijicmeckaaW.PrintMore
attribute [local go_sem] max2_int min2_int max_two min_two max_three min_three max_four min_four   -- for this text's walks alone
set_option linter.unusedVariables false
set_option linter.unusedSimpArgs false

/-! ### demurralref09_Recover: function 20 -/
mutual
def demurralref09_Recover.l0 : Nat → List ByteArray → Int → Int → ByteArray → List ByteArray → Option (ByteArray × List ByteArray)
  | 0, _, _, _, _, _ => none
  | k + 1, x9, x10, x11, x247000, x247001 => if x11 < x10 then (if 0 ≤ x11 then (if x11 < (x9.length : Int) then (if ((rdOf ByteArray.empty x9 x11).size : Int) > 0 then (if 0 < ((rdOf ByteArray.empty x9 x11).size : Int) then (demurralref09_Recover.j1 k (rdOf ByteArray.empty x9 x11) x9 x10 x11 ((bt (rdOf ByteArray.empty x9 x11) 0) == 115) x247000 x247001) else (none)) else (demurralref09_Recover.j1 k (rdOf ByteArray.empty x9 x11) x9 x10 x11 false x247000 x247001)) else (none)) else (none)) else (some (x247000, x247001))
def demurralref09_Recover.j1 : Nat → ByteArray → List ByteArray → Int → Int → Bool → ByteArray → List ByteArray → Option (ByteArray × List ByteArray)
  | 0, _, _, _, _, _, _, _ => none
  | k + 1, x5, x9, x10, x11, x22, x247000, x247001 => if x22 = true then (if 1 ≤ (x5.size : Int) then (if (x5.size : Int) > 0 then (if 0 < (x5.size : Int) then (if (bt x5 0) = 99 then (if ([] : List ByteArray).length < 8796093022208 then (demurralref09_Recover.l0 k x9 x10 (wrap64 (x11 + 1)) (x5.extract 1 x5.size) (([] : List ByteArray) ++ [x5.extract 1 x5.size])) else (none)) else (demurralref09_Recover.l0 k x9 x10 (wrap64 (x11 + 1)) (x5.extract 1 x5.size) ([] : List ByteArray))) else (none)) else (demurralref09_Recover.l0 k x9 x10 (wrap64 (x11 + 1)) (x5.extract 1 x5.size) ([] : List ByteArray))) else (none)) else (if (x5.size : Int) > 0 then (if 0 < (x5.size : Int) then (if (bt x5 0) = 99 then (if 1 ≤ (x5.size : Int) then (if x247001.length < 8796093022208 then (demurralref09_Recover.l0 k x9 x10 (wrap64 (x11 + 1)) x247000 (x247001 ++ [x5.extract 1 x5.size])) else (none)) else (none)) else (demurralref09_Recover.l0 k x9 x10 (wrap64 (x11 + 1)) x247000 x247001)) else (none)) else (demurralref09_Recover.l0 k x9 x10 (wrap64 (x11 + 1)) x247000 x247001))
end
def demurralref09_Recover.f (k : Nat) (a0 : ByteArray) : Option (ByteArray × List ByteArray) := (demurralref09_Scan.f k a0).bind fun bt247 => (demurralref09_Recover.l0 k bt247.1 (bt247.1.length : Int) 0 (⟨#[]⟩ : ByteArray) ([] : List ByteArray))
theorem demurralref09_Recover.mono_l : ∀ k, (∀ y0 y1 y2 y3 y4, LeO (demurralref09_Recover.l0 k y0 y1 y2 y3 y4) (demurralref09_Recover.l0 (k + 1) y0 y1 y2 y3 y4)) ∧ (∀ y0 y1 y2 y3 y4 y5 y6, LeO (demurralref09_Recover.j1 k y0 y1 y2 y3 y4 y5 y6) (demurralref09_Recover.j1 (k + 1) y0 y1 y2 y3 y4 y5 y6))
  | 0 => ⟨fun _ _ _ _ _ r h => by simp [demurralref09_Recover.l0] at h, fun _ _ _ _ _ _ _ r h => by simp [demurralref09_Recover.j1] at h⟩
  | k + 1 => by
    obtain ⟨ih0, ih1⟩ := demurralref09_Recover.mono_l k
    refine ⟨?_, ?_⟩
    · intro y0 y1 y2 y3 y4
      unfold demurralref09_Recover.l0
      repeat' first
      | (with_reducible exact ih0 _ _ _ _ _)
      | (with_reducible exact ih1 _ _ _ _ _ _ _)
      | (with_reducible exact demurralref09_Scan.mono _ _)
      | (with_reducible exact LeO.refl _)
      | (with_reducible exact LeO.none _)
      | (with_reducible refine LeO.ite ?_ ?_)
      | (with_reducible refine LeO.bind ?_ (fun _ => ?_))
      | exact ih0 _ _ _ _ _
      | exact ih1 _ _ _ _ _ _ _
      | exact demurralref09_Scan.mono _ _
      | exact LeO.none _
      | refine LeO.ite ?_ ?_
      | refine LeO.bind ?_ (fun _ => ?_)
    · intro y0 y1 y2 y3 y4 y5 y6
      unfold demurralref09_Recover.j1
      repeat' first
      | (with_reducible exact ih0 _ _ _ _ _)
      | (with_reducible exact ih1 _ _ _ _ _ _ _)
      | (with_reducible exact demurralref09_Scan.mono _ _)
      | (with_reducible exact LeO.refl _)
      | (with_reducible exact LeO.none _)
      | (with_reducible refine LeO.ite ?_ ?_)
      | (with_reducible refine LeO.bind ?_ (fun _ => ?_))
      | exact ih0 _ _ _ _ _
      | exact ih1 _ _ _ _ _ _ _
      | exact demurralref09_Scan.mono _ _
      | exact LeO.none _
      | refine LeO.ite ?_ ?_
      | refine LeO.bind ?_ (fun _ => ?_)
theorem demurralref09_Recover.mono : ∀ a0 k, LeO (demurralref09_Recover.f k a0) (demurralref09_Recover.f (k + 1) a0) := by
  intro a0 k
  obtain ⟨ih0, ih1⟩ := demurralref09_Recover.mono_l k
  unfold demurralref09_Recover.f
  repeat' first
      | (with_reducible exact ih0 _ _ _ _ _)
      | (with_reducible exact ih1 _ _ _ _ _ _ _)
      | (with_reducible exact demurralref09_Scan.mono _ _)
      | (with_reducible exact LeO.refl _)
      | (with_reducible exact LeO.none _)
      | (with_reducible refine LeO.ite ?_ ?_)
      | (with_reducible refine LeO.bind ?_ (fun _ => ?_))
      | exact ih0 _ _ _ _ _
      | exact ih1 _ _ _ _ _ _ _
      | exact demurralref09_Scan.mono _ _
      | exact LeO.none _
      | refine LeO.ite ?_ ?_
      | refine LeO.bind ?_ (fun _ => ?_)
def demurralref09_Recover.T8 : Bool × List (List Nat × List Nat) := (true, [([], []), ([0], [0]), ([], []), ([2], [2]), ([3], [3]), ([1, 4], [1, 4]), ([0, 1, 2, 3, 4, 5], []), ([6, 5, 5, 0, 1, 2, 3, 4, 5], [5, 6])])
def demurralref09_Recover.B8 : List Nat := [0, 1, 0, 4, 12, 31, 63, 127]
theorem demurralref09_Recover.tab8 : rtab .any (opsOf Try.f20 8) = demurralref09_Recover.T8 := by kernel_rfl
theorem demurralref09_Recover.bits8 : waitsOk demurralref09_Recover.T8.2 demurralref09_Recover.B8 = true := by kernel_rfl
set_option maxHeartbeats 8000000 in
set_option maxRecDepth 100000 in
theorem demurralref09_Recover.calls (k : Nat) (a0 : ByteArray) (r1 : ByteArray) (r2 : List ByteArray) (w : World) (h : demurralref09_Recover.f k a0 = some (r1, r2)) :
    Calls Try.prog 20 #[.string a0] w fun e w' => ∃ v1_ : Value, e = .returned (.agg #[.string r1, v1_]) ∧ Kd.R Kd.string 9 w' w.heap.size (fun _ => True) v1_ r2 ∧ Below w.heap.size w w' := by
  have hu43 := Try.underlying43
  have hfl := fun (W : World) (A : Option Addr) (n c : Nat) (e : Int) => (show (Instr.field 40 (.agg #[.slice A n c, .int .i64 e]) 0).run Try.prog W = .ok (.slice A n c) W by kernel_rfl)
  have HB := Aside0.mk (Below.refl w.heap.size w)
  have H : ((demurralref09_Scan.f k a0).bind fun bt247 => (demurralref09_Recover.l0 k bt247.1 (bt247.1.length : Int) 0 (⟨#[]⟩ : ByteArray) ([] : List ByteArray))) = some (r1, r2) := h
  clear h
  replace H := Option.bind_eq_some_iff.mp H
  obtain ⟨⟨t247, t250⟩, A20, H⟩ := H
  replace H : (demurralref09_Recover.l0 k t247 (t247.length : Int) 0 (⟨#[]⟩ : ByteArray) ([] : List ByteArray)) = some (r1, r2) := H
  have A2 := Aside0.mk A20
  clear A20
  have H' := Aside0.mk H
  clear H
  go_enter Try.func20, Try.ntmps20
  go_wp2_with (first | ((with_reducible refine gate_dst (N := 2) rfl ?_); refine box_event ?hg (N := 2) ?hd (cs := #[.string (⟨#[]⟩ : ByteArray), .slice none 0 0]) (t := 43) ?hr ?_; (case hd => rfl); (case hg => rfl); (case hr => first | (go_simp; done) | (go_simp; rfl)); intro gb245 hg w3 hbox hb; have n0_ := Aside0.mk (below_step (by repeat (first | (with_reducible first | exact HB.out | apply below_alloc | apply pw_below_drewN | apply below_drew1) | exact HB.out)) hb); have n1_ := Aside0.mk (hbox); have n2_ := Aside0.mk ((by rw [hg]; exact (below_size (by repeat (first | (with_reducible first | exact HB.out | apply below_alloc | apply pw_below_drewN | apply below_drew1) | exact HB.out))) : w.heap.size ≤ gb245)); have n3_ := Aside0.mk ((by rw [hg]; exact (below_size (by repeat (first | (with_reducible first | exact HB.out | apply below_alloc | apply pw_below_drewN | apply below_drew1) | exact HB.out))) : w.heap.size ≤ gb245)); clear HB; have HB := n0_; have BK245 := n1_; have GW245 := n2_; have GE245 := n3_; clear n0_ n1_ n2_ n3_; clear hb hbox hg) | ((with_reducible refine gate_dst (N := 3) rfl ?_); refine box_event ?hg (N := 3) ?hd (cs := #[.string (⟨#[]⟩ : ByteArray), .slice none 0 0]) (t := 43) ?hr ?_; (case hd => rfl); (case hg => rfl); (case hr => first | (go_simp; done) | (go_simp; rfl)); intro gb246 hg w4 hbox hb; have n0_ := Aside0.mk (blk_below (g := gb245) (o := .cells #[.string (⟨#[]⟩ : ByteArray), .slice none 0 0] 43 (0, 0)) (by (with_reducible repeat (first | refine blk_drewN ?_ _ | refine blk_drew ?_ | refine blk_alloc ?_ _)); exact BK245.out) hb); have n1_ := Aside0.mk (below_step (by repeat (first | (with_reducible first | exact HB.out | apply below_alloc | apply pw_below_drewN | apply below_drew1 | refine below_set ?_ GE245.out) | exact HB.out)) hb); have n2_ := Aside0.mk (hbox); have n3_ := Aside0.mk ((by rw [hg]; exact (below_size (by repeat (first | (with_reducible first | exact HB.out | apply below_alloc | apply pw_below_drewN | apply below_drew1 | refine below_set ?_ GE245.out) | exact HB.out))) : w.heap.size ≤ gb246)); have n4_ := Aside0.mk ((by rw [hg]; exact (below_size (by repeat (first | (with_reducible first | exact HB.out | apply below_alloc | apply pw_below_drewN | apply below_drew1 | refine below_set ?_ GE245.out) | exact HB.out))) : w.heap.size ≤ gb246)); have n5_ := Aside0.mk ((by rw [hg]; exact Nat.ne_of_lt (blk_lt (g := gb245) (o := .cells #[.string (⟨#[]⟩ : ByteArray), .slice none 0 0] 43 (0, 0)) (by (with_reducible repeat (first | refine blk_drewN ?_ _ | refine blk_drew ?_ | refine blk_alloc ?_ _)); exact BK245.out)) : gb245 ≠ gb246)); have n6_ := Aside0.mk ((by rw [hg]; exact Nat.ne_of_gt (blk_lt (g := gb245) (o := .cells #[.string (⟨#[]⟩ : ByteArray), .slice none 0 0] 43 (0, 0)) (by (with_reducible repeat (first | refine blk_drewN ?_ _ | refine blk_drew ?_ | refine blk_alloc ?_ _)); exact BK245.out)) : gb246 ≠ gb245)); clear BK245; clear HB; have BK245 := n0_; have HB := n1_; have BK246 := n2_; have GW246 := n3_; have GE246 := n4_; have NB245_246 := n5_; have NB246_245 := n6_; clear n0_ n1_ n2_ n3_ n4_ n5_ n6_; clear hb hbox hg; have hnb5 := NB246_245.out; have hnc5 := NB245_246.out; have hcz6_0 : w4.cell? ⟨gb246, 0, none⟩ = some (.string (⟨#[]⟩ : ByteArray)) := (blk_cell BK246.out 0).trans rfl; have hcz6_1 : w4.cell? ⟨gb246, 1, none⟩ = some (.slice none 0 0) := (blk_cell BK246.out 1).trans rfl; have hfz6_0 := blk_frozen BK246.out 0; have hfz6_1 := blk_frozen BK246.out 1) | ((with_reducible refine gate_callee (f := 19) rfl ?_); refine goesL_ (some 8) rfl rfl Try.func19 (by kernel_rfl) rfl #[.string a0] rfl (by (try simp only [List.map_toArray, List.map_cons, List.map_nil]); first | done | rfl | (simp only [List.length_drop, List.length_take]; rfl) | (simp [Act.eval]; omega)) ?_; (with_reducible refine (demurralref09_Scan.calls k a0 t247 t250 _ A2.out).mono ?_); rintro e w7 ⟨v248, rfl, ho0, hb⟩; refine ⟨_, rfl, ?_⟩; have n0_ := Aside0.mk (Kd.R_lower ho0 (below_size (by repeat (first | (with_reducible first | exact HB.out | apply below_alloc | apply pw_below_drewN | apply below_drew1 | refine below_set ?_ GE245.out | refine below_set ?_ GE246.out) | exact HB.out)))); have n1_ := Aside0.mk (blk_below (g := gb245) (o := .cells #[.string (⟨#[]⟩ : ByteArray), .slice none 0 0] 43 (0, 0)) (by (with_reducible repeat (first | refine blk_drewN ?_ _ | refine blk_drew ?_ | refine blk_alloc ?_ _)); refine blk_far ?_ NB245_246.out _; (with_reducible repeat (first | refine blk_drewN ?_ _ | refine blk_drew ?_ | refine blk_alloc ?_ _)); refine blk_far ?_ NB245_246.out _; (with_reducible repeat (first | refine blk_drewN ?_ _ | refine blk_drew ?_ | refine blk_alloc ?_ _)); exact BK245.out) hb); have n2_ := Aside0.mk (blk_below (g := gb246) (o := .cells #[.string (⟨#[]⟩ : ByteArray), .slice none 0 0] 43 (0, 0)) (by (with_reducible repeat (first | refine blk_drewN ?_ _ | refine blk_drew ?_ | refine blk_alloc ?_ _)); refine blk_put (cs := #[.string (⟨#[]⟩ : ByteArray), .slice none 0 0]) ?_ 1 _ rfl; (with_reducible repeat (first | refine blk_drewN ?_ _ | refine blk_drew ?_ | refine blk_alloc ?_ _)); refine blk_put (cs := #[.string (⟨#[]⟩ : ByteArray), .slice none 0 0]) ?_ 0 _ rfl; (with_reducible repeat (first | refine blk_drewN ?_ _ | refine blk_drew ?_ | refine blk_alloc ?_ _)); exact BK246.out) hb); have n3_ := Aside0.mk (below_step (by repeat (first | (with_reducible first | exact HB.out | apply below_alloc | apply pw_below_drewN | apply below_drew1 | refine below_set ?_ GE245.out | refine below_set ?_ GE246.out) | exact HB.out)) hb); clear BK245; clear BK246; clear HB; have HO249 := n0_; have BK245 := n1_; have BK246 := n2_; have HB := n3_; clear n0_ n1_ n2_ n3_; (try clear hb); (try clear hb2); (try clear hk); (try clear hi); (try clear ho0); obtain ⟨Ao8, co8, eo8⟩ := Kd.R_slice HO249.out; subst eo8))
  go_loopg [11] k (fun kq v11 w' => ∃ (x11_1 : Int) (x247000_1 : ByteArray) (x247001_1 : List ByteArray) (u247001 : Value), v11 = .int .i64 x11_1 ∧ Aside0 (demurralref09_Recover.l0 kq t247 (t247.length : Int) x11_1 x247000_1 x247001_1 = some (r1, r2)) ∧ Aside0 (kq ≤ k) ∧ Aside0 (Kd.R Kd.string 9 w' w.heap.size (fun k_ => some k_ ≠ (u247001 : Value).ownBlock) (.slice Ao8 t247.length co8) t247) ∧ Aside0 (Kd.R Kd.string 9 w' w.heap.size (fun k_ => some k_ ≠ ((.slice Ao8 t247.length co8) : Value).ownBlock) u247001 x247001_1) ∧ Aside0 (w'.heap[gb245]? = some (.cells #[.string (⟨#[]⟩ : ByteArray), (.slice none 0 0)] 43 (0, 0))) ∧ Aside0 (w'.heap[gb246]? = some (.cells #[.string x247000_1, u247001] 43 (0, 0))) ∧ Aside0 (Below w.heap.size w w'))
  case atStart => exact ⟨(0), ((⟨#[]⟩ : ByteArray)), (([] : List ByteArray)), (.slice none 0 0), (by first | rfl | (simp; done) | (simp [*]; done)), H', ⟨Nat.le_refl _⟩, ⟨by (with_reducible repeat (first | apply Kd.R_alloc | apply Kd.R_drewN | apply Kd.R_drew)); exact Kd.R_mono HO249.out (fun _ hk => (by simp [Value.ownBlock]))⟩, ⟨by first | exact Kd.R_nil _ _ _ _ _ | exact Kd.N_nil _ _ _ _ _ | exact Kd.V_nil _ _ _ _ _ | exact Kd.Q_nil _ _ _ _ _ | exact Kd.S_nil _ _ _ _ _⟩, ⟨by (with_reducible repeat (first | refine blk_drewN ?_ _ | refine blk_drew ?_ | refine blk_alloc ?_ _)); exact BK245.out⟩, ⟨by (with_reducible repeat (first | refine blk_drewN ?_ _ | refine blk_drew ?_ | refine blk_alloc ?_ _)); exact BK246.out⟩, ⟨by repeat (first | (with_reducible first | exact HB.out | apply below_alloc | apply pw_below_drewN | apply below_drew1 | refine below_set ?_ GE245.out | refine below_set ?_ GE246.out) | exact HB.out)⟩⟩
  case round =>
    clear H'
    try clear c1
    try clear c2
    try clear p2
    try clear c5
    try clear hcz6_0
    try clear hcz6_1
    try clear hfz6_0
    try clear hfz6_1
    obtain ⟨x11_1, x247000_1, x247001_1, u247001, rfl, HA, HK1, HO_9, HO_247001, BK245, BK246, HB⟩ := hrel
    cases gk with
    | zero => exact absurd HA.out (by simp [demurralref09_Recover.l0])
    | succ k1 =>
      have H := HA.out
      clear HA
      simp only [demurralref09_Recover.l0] at H
      by_cases c9 : x11_1 < (t247.length : Int)
      · rw [if_pos c9] at H
        have c9b0 : decide (x11_1 < (t247.length : Int)) = true := decide_eq_true c9
        clear c9
        by_cases c10 : 0 ≤ x11_1
        · rw [if_pos c10] at H
          have c10b0 : decide (0 ≤ x11_1) = true := decide_eq_true c10
          clear c10
          by_cases c11 : x11_1 < (t247.length : Int)
          · rw [if_pos c11] at H
            have c11b0 : decide (x11_1 < (t247.length : Int)) = true := decide_eq_true c11
            clear c11
            have HC12 := Aside0.mk H
            clear H
            have p251 : 0 ≤ (x11_1 : Int) := of_decide_eq_true (by first | (with_reducible assumption) | assumption)
            have q251 : x11_1 < (t247.length : Int) := of_decide_eq_true (by first | (with_reducible assumption) | assumption)
            obtain ⟨ad251, e251, hx251_0⟩ := Kd.at_string (Kd.R_reads' HO_9.out).2.2 x11_1 p251 q251
            cases e251
            replace p251 := eq_true p251
            replace q251 := eq_true q251
            go_upto_region 5 with (fail)
            go_cut [22] (fun v22 wc => ∃ (kq : Nat) (x22_11 : Bool), v22 = .bool x22_11 ∧ Aside0 (demurralref09_Recover.j1 kq (rdOf ByteArray.empty t247 x11_1) t247 (t247.length : Int) x11_1 x22_11 x247000_1 x247001_1 = some (r1, r2)) ∧ Aside0 (kq ≤ k1) ∧ Aside0 (Kd.R Kd.string 9 wc w.heap.size (fun k_ => some k_ ≠ (u247001 : Value).ownBlock) (.slice (some ad251) t247.length co8) t247) ∧ Aside0 (Kd.R Kd.string 9 wc w.heap.size (fun k_ => some k_ ≠ ((.slice (some ad251) t247.length co8) : Value).ownBlock) u247001 x247001_1) ∧ Aside0 (wc.heap[gb245]? = some (.cells #[.string (⟨#[]⟩ : ByteArray), (.slice none 0 0)] 43 (0, 0))) ∧ Aside0 (wc.heap[gb246]? = some (.cells #[.string x247000_1, u247001] 43 (0, 0))) ∧ Aside0 (Below w.heap.size w wc))
            case first =>
              have H := HC12.out
              clear HC12
              by_cases c13 : ((rdOf ByteArray.empty t247 x11_1).size : Int) > 0
              · rw [if_pos c13] at H
                have c13b0 : decide (0 < ((rdOf ByteArray.empty t247 x11_1).size : Int)) = true := decide_eq_true c13
                have c13b1 : decide (0 < (rdOf ByteArray.empty t247 x11_1).size) = true := decide_eq_true (by omega)
                clear c13
                (first | rw [c13b0] | (simp only [i64_w, i32_w]; rw [c13b0]) | skip)
                by_cases c14 : 0 < ((rdOf ByteArray.empty t247 x11_1).size : Int)
                · rw [if_pos c14] at H
                  have c14b0 : decide (0 < ((rdOf ByteArray.empty t247 x11_1).size : Int)) = true := decide_eq_true c14
                  have c14b1 : decide (0 < (rdOf ByteArray.empty t247 x11_1).size) = true := decide_eq_true (by omega)
                  clear c14
                  have H' := Aside0.mk H
                  clear H
                  have p15 : 0 ≤ (0 : Int) := (by omega)
                  have q15 : 0 < (rdOf ByteArray.empty t247 x11_1).size := (by have : (0 : Int) < ((rdOf ByteArray.empty t247 x11_1).size : Int) := of_decide_eq_true (by first | (with_reducible assumption) | assumption); omega)
                  have hx15 : ∀ h : 0 < (rdOf ByteArray.empty t247 x11_1).size, (((rdOf ByteArray.empty t247 x11_1)[0]'h).toNat : Int) = bt (rdOf ByteArray.empty t247 x11_1) 0 := bt_at (rdOf ByteArray.empty t247 x11_1) 0
                  clear p15
                  have qi15 : (0 < ((rdOf ByteArray.empty t247 x11_1).size : Int)) = True := eq_true (of_decide_eq_true (by first | (with_reducible assumption) | assumption))
                  replace q15 := eq_true q15
                  go_wp2
                  go_meet
                  case rel => exact ⟨_, (((bt (rdOf ByteArray.empty t247 x11_1) 0) == 115)), (by first | rfl | (simp; done) | (simp [*]; done)), H', ⟨by have := HK1.out; first | omega | exact Nat.le_refl _⟩, ⟨by (with_reducible repeat (first | apply Kd.R_alloc | apply Kd.R_drewN | apply Kd.R_drew)); exact HO_9.out⟩, ⟨by (with_reducible repeat (first | apply Kd.R_alloc | apply Kd.R_drewN | apply Kd.R_drew)); exact HO_247001.out⟩, ⟨by (with_reducible repeat (first | refine blk_drewN ?_ _ | refine blk_drew ?_ | refine blk_alloc ?_ _)); exact BK245.out⟩, ⟨by (with_reducible repeat (first | refine blk_drewN ?_ _ | refine blk_drew ?_ | refine blk_alloc ?_ _)); exact BK246.out⟩, ⟨by repeat (first | (with_reducible first | exact HB.out | apply below_alloc | apply pw_below_drewN | apply below_drew1 | refine below_set ?_ GE245.out | refine below_set ?_ GE246.out) | exact HB.out)⟩⟩
                · rw [if_neg c14] at H
                  exact absurd H (by simp)
              · rw [if_neg c13] at H
                have c13b0 : decide (0 < ((rdOf ByteArray.empty t247 x11_1).size : Int)) = false := decide_eq_false c13
                have c13b1 : decide (0 < (rdOf ByteArray.empty t247 x11_1).size) = false := decide_eq_false (by omega)
                clear c13
                (first | rw [c13b0] | (simp only [i64_w, i32_w]; rw [c13b0]) | skip)
                have H' := Aside0.mk H
                clear H
                go_wp2
                go_meet
                case rel => exact ⟨_, (false), (by first | rfl | (simp; done) | (simp [*]; done)), H', ⟨by have := HK1.out; first | omega | exact Nat.le_refl _⟩, ⟨by (with_reducible repeat (first | apply Kd.R_alloc | apply Kd.R_drewN | apply Kd.R_drew)); exact HO_9.out⟩, ⟨by (with_reducible repeat (first | apply Kd.R_alloc | apply Kd.R_drewN | apply Kd.R_drew)); exact HO_247001.out⟩, ⟨by (with_reducible repeat (first | refine blk_drewN ?_ _ | refine blk_drew ?_ | refine blk_alloc ?_ _)); exact BK245.out⟩, ⟨by (with_reducible repeat (first | refine blk_drewN ?_ _ | refine blk_drew ?_ | refine blk_alloc ?_ _)); exact BK246.out⟩, ⟨by repeat (first | (with_reducible first | exact HB.out | apply below_alloc | apply pw_below_drewN | apply below_drew1 | refine below_set ?_ GE245.out | refine below_set ?_ GE246.out) | exact HB.out)⟩⟩
            case rest =>
              clear HC12
              try clear c1
              try clear p1
              try clear q1
              try clear hx1
              try clear qi1
              try clear c2
              try clear p2
              try clear q2
              try clear hx2
              try clear c5
              try clear c9
              try clear c9b0
              try clear c10
              try clear c10b0
              try clear c11
              try clear c11b0
              try clear c13
              try clear c13b0
              try clear c13b1
              try clear c14
              try clear c14b0
              try clear c14b1
              try clear p15
              try clear q15
              try clear hx15
              try clear qi15
              try clear hcz6_0
              try clear hcz6_1
              try clear hfz6_0
              try clear hfz6_1
              try clear hx251_0
              try clear p15
              try clear p2
              try clear p251
              try clear q15
              try clear q251
              obtain ⟨kq, x22_11, rfl, HA, HJ11, HO_9, HO_247001, BK245, BK246, HB⟩ := hcut
              cases kq with
              | zero => exact absurd HA.out (by simp [demurralref09_Recover.j1])
              | succ kj11 =>
                have H := HA.out
                clear HA
                simp only [demurralref09_Recover.j1] at H
                by_cases c16 : x22_11 = true
                · subst c16
                  have H1 : (if 1 ≤ ((rdOf ByteArray.empty t247 x11_1).size : Int) then (if ((rdOf ByteArray.empty t247 x11_1).size : Int) > 0 then (if 0 < ((rdOf ByteArray.empty t247 x11_1).size : Int) then (if (bt (rdOf ByteArray.empty t247 x11_1) 0) = 99 then (if ([] : List ByteArray).length < 8796093022208 then (demurralref09_Recover.l0 kj11 t247 (t247.length : Int) (wrap64 (x11_1 + 1)) ((rdOf ByteArray.empty t247 x11_1).extract 1 (rdOf ByteArray.empty t247 x11_1).size) (([] : List ByteArray) ++ [(rdOf ByteArray.empty t247 x11_1).extract 1 (rdOf ByteArray.empty t247 x11_1).size])) else (none)) else (demurralref09_Recover.l0 kj11 t247 (t247.length : Int) (wrap64 (x11_1 + 1)) ((rdOf ByteArray.empty t247 x11_1).extract 1 (rdOf ByteArray.empty t247 x11_1).size) ([] : List ByteArray))) else (none)) else (demurralref09_Recover.l0 kj11 t247 (t247.length : Int) (wrap64 (x11_1 + 1)) ((rdOf ByteArray.empty t247 x11_1).extract 1 (rdOf ByteArray.empty t247 x11_1).size) ([] : List ByteArray))) else (none)) = some (r1, r2) := by rw [if_pos rfl] at H; exact H
                  clear H
                  have H := H1
                  clear H1
                  by_cases c17 : 1 ≤ ((rdOf ByteArray.empty t247 x11_1).size : Int)
                  · rw [if_pos c17] at H
                    have c17b0 := eq_true c17
                    have c17b1 : decide (1 ≤ ((rdOf ByteArray.empty t247 x11_1).size : Int)) = true := decide_eq_true c17
                    clear c17
                    by_cases c18 : ((rdOf ByteArray.empty t247 x11_1).size : Int) > 0
                    · rw [if_pos c18] at H
                      have c18b0 : decide (0 < ((rdOf ByteArray.empty t247 x11_1).size : Int)) = true := decide_eq_true c18
                      have c18b1 : decide (0 < (rdOf ByteArray.empty t247 x11_1).size) = true := decide_eq_true (by omega)
                      clear c18
                      by_cases c19 : 0 < ((rdOf ByteArray.empty t247 x11_1).size : Int)
                      · rw [if_pos c19] at H
                        have c19b0 : decide (0 < ((rdOf ByteArray.empty t247 x11_1).size : Int)) = true := decide_eq_true c19
                        have c19b1 : decide (0 < (rdOf ByteArray.empty t247 x11_1).size) = true := decide_eq_true (by omega)
                        clear c19
                        by_cases c21 : (bt (rdOf ByteArray.empty t247 x11_1) 0) = 99
                        · rw [if_pos c21] at H
                          have c21b0 : ((bt (rdOf ByteArray.empty t247 x11_1) 0) == 99) = true := beq_iff_eq.mpr c21
                          have c21b1 : ((bt (rdOf ByteArray.empty t247 x11_1) 0) != 99) = false := bne_eq_false_iff_eq.mpr c21
                          clear c21
                          have c22b0 := eq_true (of_decide_eq_true (by first | (with_reducible assumption) | assumption) : 1 ≤ ((rdOf ByteArray.empty t247 x11_1).size : Int))
                          by_cases c23 : ([] : List ByteArray).length < 8796093022208
                          · rw [if_pos c23] at H
                            have LMc23 := Aside0.mk c23
                            clear c23
                            obtain ⟨y252, hy252⟩ : ∃ y_ : List ByteArray, y_ = (([] : List ByteArray) ++ [(rdOf ByteArray.empty t247 x11_1).extract 1 (rdOf ByteArray.empty t247 x11_1).size]) := ⟨_, rfl⟩
                            replace H : (demurralref09_Recover.l0 kj11 t247 (t247.length : Int) (wrap64 (x11_1 + 1)) ((rdOf ByteArray.empty t247 x11_1).extract 1 (rdOf ByteArray.empty t247 x11_1).size) y252) = some (r1, r2) := by first | (rw [hy252]; with_reducible exact H) | (have H2_ := (Option.bind_some _ _).symm.trans H; rw [hy252]; with_reducible exact H2_) | (have H2_ := (Option.bind_some _ _).symm.trans H; with_reducible exact H2_) | with_reducible exact H | (rw [hy252]; exact H) | exact H
                            have Ny252 := Aside0.mk hy252
                            clear hy252
                            have H' := Aside0.mk H
                            clear H
                            have hnb24 := NB246_245.out
                            have hnc24 := NB245_246.out
                            have hcz25_0 : wc.cell? ⟨gb246, 0, none⟩ = some (.string x247000_1) := (blk_cell BK246.out 0).trans rfl
                            have hcz25_1 : wc.cell? ⟨gb246, 1, none⟩ = some (u247001) := (blk_cell BK246.out 1).trans rfl
                            have hfz25_0 := blk_frozen BK246.out 0
                            have hfz25_1 := blk_frozen BK246.out 1
                            have p20 : 0 ≤ (0 : Int) := (by omega)
                            have q20 : 0 < (rdOf ByteArray.empty t247 x11_1).size := (by have : (0 : Int) < ((rdOf ByteArray.empty t247 x11_1).size : Int) := of_decide_eq_true (by first | (with_reducible assumption) | assumption); omega)
                            have hx20 : ∀ h : 0 < (rdOf ByteArray.empty t247 x11_1).size, (((rdOf ByteArray.empty t247 x11_1)[0]'h).toNat : Int) = bt (rdOf ByteArray.empty t247 x11_1) 0 := bt_at (rdOf ByteArray.empty t247 x11_1) 0
                            clear p20
                            have qi20 : (0 < ((rdOf ByteArray.empty t247 x11_1).size : Int)) = True := eq_true (of_decide_eq_true (by first | (with_reducible assumption) | assumption))
                            replace q20 := eq_true q20
                            try go_wp2
                            have n0_ : Aside0 (Kd.R Kd.string 9 ((wc.setCell ⟨gb246, 0, none⟩ (.string ((rdOf ByteArray.empty t247 x11_1).extract 1 (rdOf ByteArray.empty t247 x11_1).size))).setCell ⟨gb246, 1, none⟩ (.slice none 0 0)) w.heap.size (fun k_ => some k_ ≠ (u247001 : Value).ownBlock) (.slice (some ad251) t247.length co8) t247) := ⟨by (with_reducible repeat (first | apply Kd.R_alloc | apply Kd.R_drewN | apply Kd.R_drew)); exact Kd.R_mono (Kd.R_far (p := ⟨gb246, 1, none⟩) (Kd.R_far (p := ⟨gb246, 0, none⟩) (Kd.R_types HO_9.out BK246.out (by decide)) (fun _ hk => hk.2) (.string ((rdOf ByteArray.empty t247 x11_1).extract 1 (rdOf ByteArray.empty t247 x11_1).size))) (fun _ hk => hk.2) (.slice none 0 0)) (fun _ hk => hk.1)⟩
                            have n1_ : Aside0 (Kd.R Kd.string 9 ((wc.setCell ⟨gb246, 0, none⟩ (.string ((rdOf ByteArray.empty t247 x11_1).extract 1 (rdOf ByteArray.empty t247 x11_1).size))).setCell ⟨gb246, 1, none⟩ (.slice none 0 0)) w.heap.size (fun k_ => some k_ ≠ (.slice (some ad251) t247.length co8 : Value).ownBlock) u247001 x247001_1) := ⟨by (with_reducible repeat (first | apply Kd.R_alloc | apply Kd.R_drewN | apply Kd.R_drew)); exact Kd.R_mono (Kd.R_far (p := ⟨gb246, 1, none⟩) (Kd.R_far (p := ⟨gb246, 0, none⟩) (Kd.R_types HO_247001.out BK246.out (by decide)) (fun _ hk => hk.2) (.string ((rdOf ByteArray.empty t247 x11_1).extract 1 (rdOf ByteArray.empty t247 x11_1).size))) (fun _ hk => hk.2) (.slice none 0 0)) (fun _ hk => hk.1)⟩
                            have n2_ : Aside0 (((wc.setCell ⟨gb246, 0, none⟩ (.string ((rdOf ByteArray.empty t247 x11_1).extract 1 (rdOf ByteArray.empty t247 x11_1).size))).setCell ⟨gb246, 1, none⟩ (.slice none 0 0)).heap[gb245]? = some (.cells #[.string (⟨#[]⟩ : ByteArray), .slice none 0 0] 43 (0, 0))) := ⟨by (with_reducible repeat (first | refine blk_drewN ?_ _ | refine blk_drew ?_ | refine blk_alloc ?_ _)); refine blk_far ?_ NB245_246.out _; (with_reducible repeat (first | refine blk_drewN ?_ _ | refine blk_drew ?_ | refine blk_alloc ?_ _)); refine blk_far ?_ NB245_246.out _; (with_reducible repeat (first | refine blk_drewN ?_ _ | refine blk_drew ?_ | refine blk_alloc ?_ _)); exact BK245.out⟩
                            have n3_ : Aside0 (((wc.setCell ⟨gb246, 0, none⟩ (.string ((rdOf ByteArray.empty t247 x11_1).extract 1 (rdOf ByteArray.empty t247 x11_1).size))).setCell ⟨gb246, 1, none⟩ (.slice none 0 0)).heap[gb246]? = some (.cells #[.string ((rdOf ByteArray.empty t247 x11_1).extract 1 (rdOf ByteArray.empty t247 x11_1).size), .slice none 0 0] 43 (0, 0))) := ⟨by (with_reducible repeat (first | refine blk_drewN ?_ _ | refine blk_drew ?_ | refine blk_alloc ?_ _)); refine blk_put (cs := #[.string ((rdOf ByteArray.empty t247 x11_1).extract 1 (rdOf ByteArray.empty t247 x11_1).size), u247001]) ?_ 1 _ rfl; (with_reducible repeat (first | refine blk_drewN ?_ _ | refine blk_drew ?_ | refine blk_alloc ?_ _)); refine blk_put (cs := #[.string x247000_1, u247001]) ?_ 0 _ rfl; (with_reducible repeat (first | refine blk_drewN ?_ _ | refine blk_drew ?_ | refine blk_alloc ?_ _)); exact BK246.out⟩
                            have n4_ : Aside0 (Below w.heap.size w ((wc.setCell ⟨gb246, 0, none⟩ (.string ((rdOf ByteArray.empty t247 x11_1).extract 1 (rdOf ByteArray.empty t247 x11_1).size))).setCell ⟨gb246, 1, none⟩ (.slice none 0 0))) := ⟨by repeat (first | (with_reducible first | exact HB.out | apply below_alloc | apply pw_below_drewN | apply below_drew1 | refine below_set ?_ GE245.out | refine below_set ?_ GE246.out) | exact HB.out)⟩
                            (try clear HO_9)
                            (try clear HO_247001)
                            (try clear BK245)
                            (try clear BK246)
                            (try clear HB)
                            generalize ((wc.setCell ⟨gb246, 0, none⟩ (.string ((rdOf ByteArray.empty t247 x11_1).extract 1 (rdOf ByteArray.empty t247 x11_1).size))).setCell ⟨gb246, 1, none⟩ (.slice none 0 0)) = w26 at n0_ n1_ n2_ n3_ n4_ ⊢
                            have HO_9 := n0_
                            have HO_247001 := n1_
                            have BK245 := n2_
                            have BK246 := n3_
                            have HB := n4_
                            clear n0_ n1_ n2_ n3_ n4_
                            have n0_ := Aside0.mk (Kd.R_drew HO_9.out)
                            have n1_ := Aside0.mk (Kd.R_drew HO_247001.out)
                            have n2_ := Aside0.mk (blk_drew BK245.out)
                            have n3_ := Aside0.mk (blk_drew BK246.out)
                            have n4_ := Aside0.mk (below_drew1 HB.out)
                            clear HO_9
                            clear HO_247001
                            clear BK245
                            clear BK246
                            clear HB
                            have HO_9 := n0_
                            have HO_247001 := n1_
                            have BK245 := n2_
                            have BK246 := n3_
                            have HB := n4_
                            clear n0_ n1_ n2_ n3_ n4_
                            refine start_ (n := 8) (S := fun w' => w'.cell? ⟨gb246, 0, none⟩ = some (.string ((rdOf ByteArray.empty t247 x11_1).extract 1 (rdOf ByteArray.empty t247 x11_1).size)) ∧ w'.cell? ⟨gb246, 1, none⟩ = some (.slice none 0 0)) (ds := [7]) #[false, false, false, false, false, false, false, false] (by kernel_rfl) rfl rfl ⟨(blk_cell BK246.out 0).trans rfl, (blk_cell BK246.out 1).trans rfl⟩ (fun hHeld => ?_); refine with_tabW demurralref09_Recover.tab8 demurralref09_Recover.bits8 (fun HT_ HW_ => ?_)
                            generalize w26.drew = w27 at HO_9 HO_247001 BK245 BK246 HB hHeld ⊢
                            refine pure_ (i := 0) (N := some 34) (v := ?_) (a' := ?_) #[true, false, false, false, false, false, false, false] rfl rfl (any_of HT_.out (by kernel_rfl)) (fun _ _ _ h => h) (Or.inl ⟨by rfl, ?_⟩) ?_ ?_
                            rotate_left
                            · intro w'
                              go_simp
                              with_reducible rfl
                            rotate_left
                            · simp only [Act.put, List.setIfInBounds_toArray, List.set_cons_zero, List.set_cons_succ, i64_w, i32_w]
                              rfl
                            refine pure_ (i := 2) (N := some 36) (v := ?_) (a' := ?_) #[true, false, true, false, false, false, false, false] rfl rfl (any_of HT_.out (by kernel_rfl)) (fun _ _ _ h => h) (Or.inl ⟨by rfl, ?_⟩) ?_ ?_
                            rotate_left
                            · intro w'
                              go_simp
                              with_reducible rfl
                            rotate_left
                            · simp only [Act.put, List.setIfInBounds_toArray, List.set_cons_zero, List.set_cons_succ, i64_w, i32_w]
                              rfl
                            refine pure_ (i := 3) (N := some 37) (v := ?_) (a' := ?_) #[true, false, true, true, false, false, false, false] rfl rfl (any_of HT_.out (by kernel_rfl)) (fun _ _ _ h => h) (Or.inl ⟨by rfl, ?_⟩) ?_ ?_
                            rotate_left
                            · intro w'
                              go_simp
                              with_reducible rfl
                            rotate_left
                            · simp only [Act.put, List.setIfInBounds_toArray, List.set_cons_zero, List.set_cons_succ, i64_w, i32_w]
                              rfl
                            refine take_ (i := 1) (N := some 35) (v := ?_) (a' := ?_) #[true, true, true, true, false, false, false, false] rfl rfl (take_ofW HT_.out HW_.out (by kernel_rfl)) (fun _ _ _ h => h) (Or.inl ⟨by rfl, ?_⟩) hHeld ?_ ?_
                            rotate_left
                            · rintro w' ⟨s0, s1⟩
                              go_simp
                              with_reducible rfl
                            rotate_left
                            · simp only [Act.put, List.setIfInBounds_toArray, List.set_cons_zero, List.set_cons_succ, i64_w, i32_w]
                              rfl
                            refine one_ (i := 4) (N := some 38) #[true, true, true, true, true, false, false, false] rfl rfl (one_of HT_.out (by kernel_rfl)) (by decide) (fun K hK => ?_)
                            refine value_ (w1 := ?_) (v := ?_) (by rfl) rfl ?_ ?_
                            rotate_left 2
                            · go_simp
                              constructor
                              · rfl
                              · rfl
                            refine hK.out _ _ ⟨(blk_cell (blk_alloc BK246.out _) 0).trans rfl, (blk_cell (blk_alloc BK246.out _) 1).trans rfl⟩ (fun hHeld => ?_)
                            clear hK K
                            refine norm_ (a' := ?_) ?_ ?_
                            rotate_left
                            · show Act.put _ (some 38) _ = _
                              simp only [Act.put, List.setIfInBounds_toArray, List.set_cons_zero, List.set_cons_succ, i64_w, i32_w]
                              rfl
                            refine one_ (i := 5) (N := some 39) #[true, true, true, true, true, true, false, false] rfl rfl (one_of HT_.out (by kernel_rfl)) (by decide) (fun K hK => ?_)
                            refine Kd.R_append_step Kd.string (w0 := w) w.heap.size (by rfl) (.tmp 35) (.tmp 38) 22 9 (.string ⟨#[]⟩) 16 rfl Try.underlying22 info9 rfl (by decide) (by omega) (.slice none 0 0) ([] : List ByteArray) ((rdOf ByteArray.empty t247 x11_1).extract 1 (rdOf ByteArray.empty t247 x11_1).size) [.string ((rdOf ByteArray.empty t247 x11_1).extract 1 (rdOf ByteArray.empty t247 x11_1).size)] (fun k_ => some k_ ≠ (.slice (some ad251) t247.length co8 : Value).ownBlock ∧ some k_ ≠ (u247001 : Value).ownBlock) (fun _ => False) rfl rfl ?aP (fun _ hk => hk.elim) ?aF ?aO ?aB ?aS ?aL ?_
                            (case aP => exact rfl)
                            (case aB => exact (by repeat (first | (with_reducible first | exact HB.out | apply below_alloc | apply pw_below_drewN | apply below_drew1 | refine below_set ?_ GE245.out | refine below_set ?_ GE246.out) | exact HB.out)))
                            (case aF => exact (fun k_ hk => ⟨Kd.fresh' (Kd.R_lt (by (with_reducible repeat (first | apply Kd.R_alloc | apply Kd.R_drewN | apply Kd.R_drew)); exact HO_9.out)) k_ hk, Kd.fresh' (Kd.R_lt (by (with_reducible repeat (first | apply Kd.R_alloc | apply Kd.R_drewN | apply Kd.R_drew)); exact HO_247001.out)) k_ hk⟩))
                            (case aO => exact ((Kd.R_nil _ _ _ _ (fun k_ => some k_ ≠ (.slice (some ad251) t247.length co8 : Value).ownBlock ∧ some k_ ≠ (u247001 : Value).ownBlock))))
                            (case aS => exact (below_size (by repeat (first | (with_reducible first | exact HB.out | apply below_alloc | apply pw_below_drewN | apply below_drew1 | refine below_set ?_ GE245.out | refine below_set ?_ GE246.out) | exact HB.out))))
                            (case aL => have := LMc23.out; omega)
                            intro v253 w28 ho hb hg hat
                            rw [← Ny252.out] at ho
                            have n0_ := Aside0.mk (Kd.R_after (Kd.R_apart_nil (by (with_reducible repeat (first | apply Kd.R_alloc | apply Kd.R_drewN | apply Kd.R_drew)); exact HO_9.out)) hg hat)
                            have n1_ := Aside0.mk (Kd.R_after (Kd.R_apart_nil (by (with_reducible repeat (first | apply Kd.R_alloc | apply Kd.R_drewN | apply Kd.R_drew)); exact HO_247001.out)) hg hat)
                            have n2_ := Aside0.mk (blk_grown (g := gb245) (o := .cells #[.string (⟨#[]⟩ : ByteArray), .slice none 0 0] 43 (0, 0)) (by (with_reducible repeat (first | refine blk_drewN ?_ _ | refine blk_drew ?_ | refine blk_alloc ?_ _)); exact BK245.out) hg (by simp [Value.ownBlock]))
                            have n3_ := Aside0.mk (blk_grown (g := gb246) (o := .cells #[.string ((rdOf ByteArray.empty t247 x11_1).extract 1 (rdOf ByteArray.empty t247 x11_1).size), .slice none 0 0] 43 (0, 0)) (by (with_reducible repeat (first | refine blk_drewN ?_ _ | refine blk_drew ?_ | refine blk_alloc ?_ _)); exact BK246.out) hg (by simp [Value.ownBlock]))
                            have n4_ := Aside0.mk (hb)
                            have n5_ := Aside0.mk (ho)
                            clear HO_9
                            clear HO_247001
                            clear BK245
                            clear BK246
                            clear HB
                            have HO_9 := n0_
                            have HO_247001 := n1_
                            have BK245 := n2_
                            have BK246 := n3_
                            have HB := n4_
                            have HO254 := n5_
                            clear n0_ n1_ n2_ n3_ n4_ n5_
                            clear ho hb hg hat
                            obtain ⟨Ao29, co29, eo29⟩ := Kd.R_slice HO254.out
                            (first | subst eo29 | (injection eo29 with f1_ f2_ f3_; have f4_ := f1_.symm; have f5_ := f3_.symm; clear f1_ f2_ f3_; subst f4_; subst f5_))
                            refine hK.out _ _ ⟨(blk_cell BK246.out 0).trans rfl, (blk_cell BK246.out 1).trans rfl⟩ (fun hHeld => ?_)
                            clear hK K
                            refine norm_ (a' := ?_) ?_ ?_
                            rotate_left
                            · show Act.put _ (some 39) _ = _
                              simp only [Act.put, List.setIfInBounds_toArray, List.set_cons_zero, List.set_cons_succ, i64_w, i32_w]
                              rfl
                            refine pure_ (i := 6) (N := some 40) (v := ?_) (a' := ?_) #[true, true, true, true, true, true, true, false] rfl rfl (any_of HT_.out (by kernel_rfl)) (fun _ _ _ h => h) (Or.inl ⟨by rfl, ?_⟩) ?_ ?_
                            rotate_left
                            · intro w'
                              go_simp
                              with_reducible rfl
                            rotate_left
                            · simp only [Act.put, List.setIfInBounds_toArray, List.set_cons_zero, List.set_cons_succ, i64_w, i32_w]
                              rfl
                            refine last_ (i := 7) (N := none) #[true, true, true, true, true, true, true, true] rfl rfl (one_of HT_.out (by kernel_rfl)) (by decide) (fun K hK => ?_)
                            have hs30 : w28.cell? ⟨gb246, 1, none⟩ = some (.slice none 0 0) := (blk_cell BK246.out 1).trans rfl
                            have hfs30 := blk_frozen BK246.out 1
                            have hns30_0 := NB245_246.out
                            have hms30_0 := NB246_245.out
                            refine skip_ (w1 := ?_) (by rfl) rfl ?_ ?_
                            rotate_left
                            · go_simp
                              rfl
                            refine hK.out _ _ ?_
                            clear hK K
                            refine done_ (done_of HT_.out (by kernel_rfl)) ?_
                            try go_wp2
                            go_roundg kj11
                            case measure => have := HK1.out; have := HJ11.out; omega
                            case rel => exact ⟨(wrap64 (x11_1 + 1)), ((rdOf ByteArray.empty t247 x11_1).extract 1 (rdOf ByteArray.empty t247 x11_1).size), (y252), (.slice Ao29 y252.length co29), (by first | rfl | (simp; done) | (simp [*]; done)), H', ⟨by have := HK1.out; have := HJ11.out; omega⟩, ⟨by (with_reducible repeat (first | apply Kd.R_alloc | apply Kd.R_drewN | apply Kd.R_drew)); exact Kd.R_mono (Kd.R_far (p := ⟨gb246, 1, none⟩) (Kd.R_types HO_9.out BK246.out (by decide)) (fun _ hk => hk.2) (.slice Ao29 y252.length co29)) (fun _ hk => hk.1.2)⟩, ⟨by (with_reducible repeat (first | apply Kd.R_alloc | apply Kd.R_drewN | apply Kd.R_drew)); exact Kd.R_mono (Kd.R_far (p := ⟨gb246, 1, none⟩) (Kd.R_types HO254.out BK246.out (by decide)) (fun _ hk => hk.2) (.slice Ao29 y252.length co29)) (fun _ hk => hk.1.1)⟩, ⟨by (with_reducible repeat (first | refine blk_drewN ?_ _ | refine blk_drew ?_ | refine blk_alloc ?_ _)); refine blk_far ?_ NB245_246.out _; (with_reducible repeat (first | refine blk_drewN ?_ _ | refine blk_drew ?_ | refine blk_alloc ?_ _)); exact BK245.out⟩, ⟨by (with_reducible repeat (first | refine blk_drewN ?_ _ | refine blk_drew ?_ | refine blk_alloc ?_ _)); refine blk_put (cs := #[.string ((rdOf ByteArray.empty t247 x11_1).extract 1 (rdOf ByteArray.empty t247 x11_1).size), .slice none 0 0]) ?_ 1 _ rfl; (with_reducible repeat (first | refine blk_drewN ?_ _ | refine blk_drew ?_ | refine blk_alloc ?_ _)); exact BK246.out⟩, ⟨by repeat (first | (with_reducible first | exact HB.out | apply below_alloc | apply pw_below_drewN | apply below_drew1 | refine below_set ?_ GE245.out | refine below_set ?_ GE246.out) | exact HB.out)⟩⟩
                          · rw [if_neg c23] at H
                            exact absurd H (by simp)
                        · rw [if_neg c21] at H
                          have c21b0 : ((bt (rdOf ByteArray.empty t247 x11_1) 0) == 99) = false := beq_eq_false_iff_ne.mpr c21
                          have c21b1 : ((bt (rdOf ByteArray.empty t247 x11_1) 0) != 99) = true := bne_iff_ne.mpr c21
                          have H' := Aside0.mk H
                          clear H
                          have hnb31 := NB246_245.out
                          have hnc31 := NB245_246.out
                          have hcz32_0 : wc.cell? ⟨gb246, 0, none⟩ = some (.string x247000_1) := (blk_cell BK246.out 0).trans rfl
                          have hcz32_1 : wc.cell? ⟨gb246, 1, none⟩ = some (u247001) := (blk_cell BK246.out 1).trans rfl
                          have hfz32_0 := blk_frozen BK246.out 0
                          have hfz32_1 := blk_frozen BK246.out 1
                          have p20 : 0 ≤ (0 : Int) := (by omega)
                          have q20 : 0 < (rdOf ByteArray.empty t247 x11_1).size := (by have : (0 : Int) < ((rdOf ByteArray.empty t247 x11_1).size : Int) := of_decide_eq_true (by first | (with_reducible assumption) | assumption); omega)
                          have hx20 : ∀ h : 0 < (rdOf ByteArray.empty t247 x11_1).size, (((rdOf ByteArray.empty t247 x11_1)[0]'h).toNat : Int) = bt (rdOf ByteArray.empty t247 x11_1) 0 := bt_at (rdOf ByteArray.empty t247 x11_1) 0
                          clear p20
                          have qi20 : (0 < ((rdOf ByteArray.empty t247 x11_1).size : Int)) = True := eq_true (of_decide_eq_true (by first | (with_reducible assumption) | assumption))
                          replace q20 := eq_true q20
                          go_wp2
                          go_roundg kj11
                          case measure => have := HK1.out; have := HJ11.out; omega
                          case rel => exact ⟨(wrap64 (x11_1 + 1)), ((rdOf ByteArray.empty t247 x11_1).extract 1 (rdOf ByteArray.empty t247 x11_1).size), (([] : List ByteArray)), (.slice none 0 0), (by first | rfl | (simp; done) | (simp [*]; done)), H', ⟨by have := HK1.out; have := HJ11.out; omega⟩, ⟨by (with_reducible repeat (first | apply Kd.R_alloc | apply Kd.R_drewN | apply Kd.R_drew)); exact Kd.R_mono (Kd.R_far (p := ⟨gb246, 1, none⟩) (Kd.R_far (p := ⟨gb246, 0, none⟩) (Kd.R_types HO_9.out BK246.out (by decide)) (fun _ hk => hk.2) (.string ((rdOf ByteArray.empty t247 x11_1).extract 1 (rdOf ByteArray.empty t247 x11_1).size))) (fun _ hk => hk.2) (.slice none 0 0)) (fun _ hk => (by simp [Value.ownBlock]))⟩, ⟨by first | exact Kd.R_nil _ _ _ _ _ | exact Kd.N_nil _ _ _ _ _ | exact Kd.V_nil _ _ _ _ _ | exact Kd.Q_nil _ _ _ _ _ | exact Kd.S_nil _ _ _ _ _⟩, ⟨by (with_reducible repeat (first | refine blk_drewN ?_ _ | refine blk_drew ?_ | refine blk_alloc ?_ _)); refine blk_far ?_ NB245_246.out _; (with_reducible repeat (first | refine blk_drewN ?_ _ | refine blk_drew ?_ | refine blk_alloc ?_ _)); refine blk_far ?_ NB245_246.out _; (with_reducible repeat (first | refine blk_drewN ?_ _ | refine blk_drew ?_ | refine blk_alloc ?_ _)); exact BK245.out⟩, ⟨by (with_reducible repeat (first | refine blk_drewN ?_ _ | refine blk_drew ?_ | refine blk_alloc ?_ _)); refine blk_put (cs := #[.string ((rdOf ByteArray.empty t247 x11_1).extract 1 (rdOf ByteArray.empty t247 x11_1).size), u247001]) ?_ 1 _ rfl; (with_reducible repeat (first | refine blk_drewN ?_ _ | refine blk_drew ?_ | refine blk_alloc ?_ _)); refine blk_put (cs := #[.string x247000_1, u247001]) ?_ 0 _ rfl; (with_reducible repeat (first | refine blk_drewN ?_ _ | refine blk_drew ?_ | refine blk_alloc ?_ _)); exact BK246.out⟩, ⟨by repeat (first | (with_reducible first | exact HB.out | apply below_alloc | apply pw_below_drewN | apply below_drew1 | refine below_set ?_ GE245.out | refine below_set ?_ GE246.out) | exact HB.out)⟩⟩
                      · rw [if_neg c19] at H
                        exact absurd H (by simp)
                    · rw [if_neg c18] at H
                      have c18b0 : decide (0 < ((rdOf ByteArray.empty t247 x11_1).size : Int)) = false := decide_eq_false c18
                      have c18b1 : decide (0 < (rdOf ByteArray.empty t247 x11_1).size) = false := decide_eq_false (by omega)
                      clear c18
                      have H' := Aside0.mk H
                      clear H
                      have hnb33 := NB246_245.out
                      have hnc33 := NB245_246.out
                      have hcz34_0 : wc.cell? ⟨gb246, 0, none⟩ = some (.string x247000_1) := (blk_cell BK246.out 0).trans rfl
                      have hcz34_1 : wc.cell? ⟨gb246, 1, none⟩ = some (u247001) := (blk_cell BK246.out 1).trans rfl
                      have hfz34_0 := blk_frozen BK246.out 0
                      have hfz34_1 := blk_frozen BK246.out 1
                      go_wp2
                      go_roundg kj11
                      case measure => have := HK1.out; have := HJ11.out; omega
                      case rel => exact ⟨(wrap64 (x11_1 + 1)), ((rdOf ByteArray.empty t247 x11_1).extract 1 (rdOf ByteArray.empty t247 x11_1).size), (([] : List ByteArray)), (.slice none 0 0), (by first | rfl | (simp; done) | (simp [*]; done)), H', ⟨by have := HK1.out; have := HJ11.out; omega⟩, ⟨by (with_reducible repeat (first | apply Kd.R_alloc | apply Kd.R_drewN | apply Kd.R_drew)); exact Kd.R_mono (Kd.R_far (p := ⟨gb246, 1, none⟩) (Kd.R_far (p := ⟨gb246, 0, none⟩) (Kd.R_types HO_9.out BK246.out (by decide)) (fun _ hk => hk.2) (.string ((rdOf ByteArray.empty t247 x11_1).extract 1 (rdOf ByteArray.empty t247 x11_1).size))) (fun _ hk => hk.2) (.slice none 0 0)) (fun _ hk => (by simp [Value.ownBlock]))⟩, ⟨by first | exact Kd.R_nil _ _ _ _ _ | exact Kd.N_nil _ _ _ _ _ | exact Kd.V_nil _ _ _ _ _ | exact Kd.Q_nil _ _ _ _ _ | exact Kd.S_nil _ _ _ _ _⟩, ⟨by (with_reducible repeat (first | refine blk_drewN ?_ _ | refine blk_drew ?_ | refine blk_alloc ?_ _)); refine blk_far ?_ NB245_246.out _; (with_reducible repeat (first | refine blk_drewN ?_ _ | refine blk_drew ?_ | refine blk_alloc ?_ _)); refine blk_far ?_ NB245_246.out _; (with_reducible repeat (first | refine blk_drewN ?_ _ | refine blk_drew ?_ | refine blk_alloc ?_ _)); exact BK245.out⟩, ⟨by (with_reducible repeat (first | refine blk_drewN ?_ _ | refine blk_drew ?_ | refine blk_alloc ?_ _)); refine blk_put (cs := #[.string ((rdOf ByteArray.empty t247 x11_1).extract 1 (rdOf ByteArray.empty t247 x11_1).size), u247001]) ?_ 1 _ rfl; (with_reducible repeat (first | refine blk_drewN ?_ _ | refine blk_drew ?_ | refine blk_alloc ?_ _)); refine blk_put (cs := #[.string x247000_1, u247001]) ?_ 0 _ rfl; (with_reducible repeat (first | refine blk_drewN ?_ _ | refine blk_drew ?_ | refine blk_alloc ?_ _)); exact BK246.out⟩, ⟨by repeat (first | (with_reducible first | exact HB.out | apply below_alloc | apply pw_below_drewN | apply below_drew1 | refine below_set ?_ GE245.out | refine below_set ?_ GE246.out) | exact HB.out)⟩⟩
                  · rw [if_neg c17] at H
                    exact absurd H (by simp)
                · replace c16 := Bool.eq_false_iff.mpr c16
                  subst c16
                  have H1 : (if ((rdOf ByteArray.empty t247 x11_1).size : Int) > 0 then (if 0 < ((rdOf ByteArray.empty t247 x11_1).size : Int) then (if (bt (rdOf ByteArray.empty t247 x11_1) 0) = 99 then (if 1 ≤ ((rdOf ByteArray.empty t247 x11_1).size : Int) then (if x247001_1.length < 8796093022208 then (demurralref09_Recover.l0 kj11 t247 (t247.length : Int) (wrap64 (x11_1 + 1)) x247000_1 (x247001_1 ++ [(rdOf ByteArray.empty t247 x11_1).extract 1 (rdOf ByteArray.empty t247 x11_1).size])) else (none)) else (none)) else (demurralref09_Recover.l0 kj11 t247 (t247.length : Int) (wrap64 (x11_1 + 1)) x247000_1 x247001_1)) else (none)) else (demurralref09_Recover.l0 kj11 t247 (t247.length : Int) (wrap64 (x11_1 + 1)) x247000_1 x247001_1)) = some (r1, r2) := by rw [if_neg (show ¬ (false = true) by decide)] at H; exact H
                  clear H
                  have H := H1
                  clear H1
                  by_cases c35 : ((rdOf ByteArray.empty t247 x11_1).size : Int) > 0
                  · rw [if_pos c35] at H
                    have c35b0 : decide (0 < ((rdOf ByteArray.empty t247 x11_1).size : Int)) = true := decide_eq_true c35
                    have c35b1 : decide (0 < (rdOf ByteArray.empty t247 x11_1).size) = true := decide_eq_true (by omega)
                    clear c35
                    by_cases c36 : 0 < ((rdOf ByteArray.empty t247 x11_1).size : Int)
                    · rw [if_pos c36] at H
                      have c36b0 : decide (0 < ((rdOf ByteArray.empty t247 x11_1).size : Int)) = true := decide_eq_true c36
                      have c36b1 : decide (0 < (rdOf ByteArray.empty t247 x11_1).size) = true := decide_eq_true (by omega)
                      clear c36
                      by_cases c38 : (bt (rdOf ByteArray.empty t247 x11_1) 0) = 99
                      · rw [if_pos c38] at H
                        have c38b0 : ((bt (rdOf ByteArray.empty t247 x11_1) 0) == 99) = true := beq_iff_eq.mpr c38
                        have c38b1 : ((bt (rdOf ByteArray.empty t247 x11_1) 0) != 99) = false := bne_eq_false_iff_eq.mpr c38
                        clear c38
                        by_cases c39 : 1 ≤ ((rdOf ByteArray.empty t247 x11_1).size : Int)
                        · rw [if_pos c39] at H
                          have c39b0 := eq_true c39
                          have c39b1 : decide (1 ≤ ((rdOf ByteArray.empty t247 x11_1).size : Int)) = true := decide_eq_true c39
                          clear c39
                          by_cases c40 : x247001_1.length < 8796093022208
                          · rw [if_pos c40] at H
                            have LMc40 := Aside0.mk c40
                            clear c40
                            obtain ⟨y255, hy255⟩ : ∃ y_ : List ByteArray, y_ = (x247001_1 ++ [(rdOf ByteArray.empty t247 x11_1).extract 1 (rdOf ByteArray.empty t247 x11_1).size]) := ⟨_, rfl⟩
                            replace H : (demurralref09_Recover.l0 kj11 t247 (t247.length : Int) (wrap64 (x11_1 + 1)) x247000_1 y255) = some (r1, r2) := by first | (rw [hy255]; with_reducible exact H) | (have H2_ := (Option.bind_some _ _).symm.trans H; rw [hy255]; with_reducible exact H2_) | (have H2_ := (Option.bind_some _ _).symm.trans H; with_reducible exact H2_) | with_reducible exact H | (rw [hy255]; exact H) | exact H
                            have Ny255 := Aside0.mk hy255
                            clear hy255
                            have H' := Aside0.mk H
                            clear H
                            have p37 : 0 ≤ (0 : Int) := (by omega)
                            have q37 : 0 < (rdOf ByteArray.empty t247 x11_1).size := (by have : (0 : Int) < ((rdOf ByteArray.empty t247 x11_1).size : Int) := of_decide_eq_true (by first | (with_reducible assumption) | assumption); omega)
                            have hx37 : ∀ h : 0 < (rdOf ByteArray.empty t247 x11_1).size, (((rdOf ByteArray.empty t247 x11_1)[0]'h).toNat : Int) = bt (rdOf ByteArray.empty t247 x11_1) 0 := bt_at (rdOf ByteArray.empty t247 x11_1) 0
                            clear p37
                            have qi37 : (0 < ((rdOf ByteArray.empty t247 x11_1).size : Int)) = True := eq_true (of_decide_eq_true (by first | (with_reducible assumption) | assumption))
                            replace q37 := eq_true q37
                            try go_wp2
                            have n0_ := Aside0.mk (Kd.R_drew HO_9.out)
                            have n1_ := Aside0.mk (Kd.R_drew HO_247001.out)
                            have n2_ := Aside0.mk (blk_drew BK245.out)
                            have n3_ := Aside0.mk (blk_drew BK246.out)
                            have n4_ := Aside0.mk (below_drew1 HB.out)
                            clear HO_9
                            clear HO_247001
                            clear BK245
                            clear BK246
                            clear HB
                            have HO_9 := n0_
                            have HO_247001 := n1_
                            have BK245 := n2_
                            have BK246 := n3_
                            have HB := n4_
                            clear n0_ n1_ n2_ n3_ n4_
                            refine start_ (n := 8) (S := fun w' => w'.cell? ⟨gb246, 0, none⟩ = some (.string x247000_1) ∧ w'.cell? ⟨gb246, 1, none⟩ = some (u247001)) (ds := [7]) #[false, false, false, false, false, false, false, false] (by kernel_rfl) rfl rfl ⟨(blk_cell BK246.out 0).trans rfl, (blk_cell BK246.out 1).trans rfl⟩ (fun hHeld => ?_); refine with_tabW demurralref09_Recover.tab8 demurralref09_Recover.bits8 (fun HT_ HW_ => ?_)
                            generalize wc.drew = w41 at HO_9 HO_247001 BK245 BK246 HB hHeld ⊢
                            refine pure_ (i := 0) (N := some 34) (v := ?_) (a' := ?_) #[true, false, false, false, false, false, false, false] rfl rfl (any_of HT_.out (by kernel_rfl)) (fun _ _ _ h => h) (Or.inl ⟨by rfl, ?_⟩) ?_ ?_
                            rotate_left
                            · intro w'
                              go_simp
                              with_reducible rfl
                            rotate_left
                            · simp only [Act.put, List.setIfInBounds_toArray, List.set_cons_zero, List.set_cons_succ, i64_w, i32_w]
                              rfl
                            refine pure_ (i := 2) (N := some 36) (v := ?_) (a' := ?_) #[true, false, true, false, false, false, false, false] rfl rfl (any_of HT_.out (by kernel_rfl)) (fun _ _ _ h => h) (Or.inl ⟨by rfl, ?_⟩) ?_ ?_
                            rotate_left
                            · intro w'
                              go_simp
                              with_reducible rfl
                            rotate_left
                            · simp only [Act.put, List.setIfInBounds_toArray, List.set_cons_zero, List.set_cons_succ, i64_w, i32_w]
                              rfl
                            refine pure_ (i := 3) (N := some 37) (v := ?_) (a' := ?_) #[true, false, true, true, false, false, false, false] rfl rfl (any_of HT_.out (by kernel_rfl)) (fun _ _ _ h => h) (Or.inl ⟨by rfl, ?_⟩) ?_ ?_
                            rotate_left
                            · intro w'
                              go_simp
                              with_reducible rfl
                            rotate_left
                            · simp only [Act.put, List.setIfInBounds_toArray, List.set_cons_zero, List.set_cons_succ, i64_w, i32_w]
                              rfl
                            refine take_ (i := 1) (N := some 35) (v := ?_) (a' := ?_) #[true, true, true, true, false, false, false, false] rfl rfl (take_ofW HT_.out HW_.out (by kernel_rfl)) (fun _ _ _ h => h) (Or.inl ⟨by rfl, ?_⟩) hHeld ?_ ?_
                            rotate_left
                            · rintro w' ⟨s0, s1⟩
                              go_simp
                              with_reducible rfl
                            rotate_left
                            · simp only [Act.put, List.setIfInBounds_toArray, List.set_cons_zero, List.set_cons_succ, i64_w, i32_w]
                              rfl
                            refine one_ (i := 4) (N := some 38) #[true, true, true, true, true, false, false, false] rfl rfl (one_of HT_.out (by kernel_rfl)) (by decide) (fun K hK => ?_)
                            refine value_ (w1 := ?_) (v := ?_) (by rfl) rfl ?_ ?_
                            rotate_left 2
                            · go_simp
                              constructor
                              · rfl
                              · rfl
                            refine hK.out _ _ ⟨(blk_cell (blk_alloc BK246.out _) 0).trans rfl, (blk_cell (blk_alloc BK246.out _) 1).trans rfl⟩ (fun hHeld => ?_)
                            clear hK K
                            refine norm_ (a' := ?_) ?_ ?_
                            rotate_left
                            · show Act.put _ (some 38) _ = _
                              simp only [Act.put, List.setIfInBounds_toArray, List.set_cons_zero, List.set_cons_succ, i64_w, i32_w]
                              rfl
                            refine one_ (i := 5) (N := some 39) #[true, true, true, true, true, true, false, false] rfl rfl (one_of HT_.out (by kernel_rfl)) (by decide) (fun K hK => ?_)
                            refine Kd.R_append_step Kd.string (w0 := w) w.heap.size (by rfl) (.tmp 35) (.tmp 38) 22 9 (.string ⟨#[]⟩) 16 rfl Try.underlying22 info9 rfl (by decide) (by omega) u247001 x247001_1 ((rdOf ByteArray.empty t247 x11_1).extract 1 (rdOf ByteArray.empty t247 x11_1).size) [.string ((rdOf ByteArray.empty t247 x11_1).extract 1 (rdOf ByteArray.empty t247 x11_1).size)] (fun k_ => some k_ ≠ (.slice (some ad251) t247.length co8 : Value).ownBlock) (fun _ => False) rfl rfl ?aP (fun _ hk => hk.elim) ?aF ?aO ?aB ?aS ?aL ?_
                            (case aP => exact rfl)
                            (case aB => exact (by repeat (first | (with_reducible first | exact HB.out | apply below_alloc | apply pw_below_drewN | apply below_drew1 | refine below_set ?_ GE245.out | refine below_set ?_ GE246.out) | exact HB.out)))
                            (case aF => exact (fun k_ hk => Kd.fresh' (Kd.R_lt (by (with_reducible repeat (first | apply Kd.R_alloc | apply Kd.R_drewN | apply Kd.R_drew)); exact HO_9.out)) k_ hk))
                            (case aO => exact (by (with_reducible repeat (first | apply Kd.R_alloc | apply Kd.R_drewN | apply Kd.R_drew)); exact HO_247001.out))
                            (case aS => exact (below_size (by repeat (first | (with_reducible first | exact HB.out | apply below_alloc | apply pw_below_drewN | apply below_drew1 | refine below_set ?_ GE245.out | refine below_set ?_ GE246.out) | exact HB.out))))
                            (case aL => have := LMc40.out; omega)
                            intro v256 w42 ho hb hg hat
                            rw [← Ny255.out] at ho
                            have n0_ := Aside0.mk (Kd.R_after (ok := (fun _ => True)) (by (with_reducible repeat (first | apply Kd.R_alloc | apply Kd.R_drewN | apply Kd.R_drew)); exact Kd.R_mono HO_9.out (fun _ hk => ⟨trivial, hk⟩)) hg hat)
                            have n1_ := Aside0.mk (blk_grown (g := gb245) (o := .cells #[.string (⟨#[]⟩ : ByteArray), .slice none 0 0] 43 (0, 0)) (by (with_reducible repeat (first | refine blk_drewN ?_ _ | refine blk_drew ?_ | refine blk_alloc ?_ _)); exact BK245.out) hg (Kd.R_ne HO_247001.out BK245.out (by decide)))
                            have n2_ := Aside0.mk (blk_grown (g := gb246) (o := .cells #[.string x247000_1, u247001] 43 (0, 0)) (by (with_reducible repeat (first | refine blk_drewN ?_ _ | refine blk_drew ?_ | refine blk_alloc ?_ _)); exact BK246.out) hg (Kd.R_ne HO_247001.out BK246.out (by decide)))
                            have n3_ := Aside0.mk (hb)
                            have n4_ := Aside0.mk (ho)
                            clear HO_9
                            clear BK245
                            clear BK246
                            clear HB
                            clear HO_247001
                            have HO_9 := n0_
                            have BK245 := n1_
                            have BK246 := n2_
                            have HB := n3_
                            have HO257 := n4_
                            clear n0_ n1_ n2_ n3_ n4_
                            clear ho hb hg hat
                            obtain ⟨Ao43, co43, eo43⟩ := Kd.R_slice HO257.out
                            (first | subst eo43 | (injection eo43 with f1_ f2_ f3_; have f4_ := f1_.symm; have f5_ := f3_.symm; clear f1_ f2_ f3_; subst f4_; subst f5_))
                            refine hK.out _ _ ⟨(blk_cell BK246.out 0).trans rfl, (blk_cell BK246.out 1).trans rfl⟩ (fun hHeld => ?_)
                            clear hK K
                            refine norm_ (a' := ?_) ?_ ?_
                            rotate_left
                            · show Act.put _ (some 39) _ = _
                              simp only [Act.put, List.setIfInBounds_toArray, List.set_cons_zero, List.set_cons_succ, i64_w, i32_w]
                              rfl
                            refine pure_ (i := 6) (N := some 40) (v := ?_) (a' := ?_) #[true, true, true, true, true, true, true, false] rfl rfl (any_of HT_.out (by kernel_rfl)) (fun _ _ _ h => h) (Or.inl ⟨by rfl, ?_⟩) ?_ ?_
                            rotate_left
                            · intro w'
                              go_simp
                              with_reducible rfl
                            rotate_left
                            · simp only [Act.put, List.setIfInBounds_toArray, List.set_cons_zero, List.set_cons_succ, i64_w, i32_w]
                              rfl
                            refine last_ (i := 7) (N := none) #[true, true, true, true, true, true, true, true] rfl rfl (one_of HT_.out (by kernel_rfl)) (by decide) (fun K hK => ?_)
                            have hs44 : w42.cell? ⟨gb246, 1, none⟩ = some (u247001) := (blk_cell BK246.out 1).trans rfl
                            have hfs44 := blk_frozen BK246.out 1
                            have hns44_0 := NB245_246.out
                            have hms44_0 := NB246_245.out
                            refine skip_ (w1 := ?_) (by rfl) rfl ?_ ?_
                            rotate_left
                            · go_simp
                              rfl
                            refine hK.out _ _ ?_
                            clear hK K
                            refine done_ (done_of HT_.out (by kernel_rfl)) ?_
                            try go_wp2
                            go_roundg kj11
                            case measure => have := HK1.out; have := HJ11.out; omega
                            case rel => exact ⟨(wrap64 (x11_1 + 1)), (x247000_1), (y255), (.slice Ao43 y255.length co43), (by first | rfl | (simp; done) | (simp [*]; done)), H', ⟨by have := HK1.out; have := HJ11.out; omega⟩, ⟨by (with_reducible repeat (first | apply Kd.R_alloc | apply Kd.R_drewN | apply Kd.R_drew)); exact Kd.R_mono (Kd.R_far (p := ⟨gb246, 1, none⟩) (Kd.R_types HO_9.out BK246.out (by decide)) (fun _ hk => hk.2) (.slice Ao43 y255.length co43)) (fun _ hk => hk.1.2)⟩, ⟨by (with_reducible repeat (first | apply Kd.R_alloc | apply Kd.R_drewN | apply Kd.R_drew)); exact Kd.R_mono (Kd.R_far (p := ⟨gb246, 1, none⟩) (Kd.R_types HO257.out BK246.out (by decide)) (fun _ hk => hk.2) (.slice Ao43 y255.length co43)) (fun _ hk => hk.1)⟩, ⟨by (with_reducible repeat (first | refine blk_drewN ?_ _ | refine blk_drew ?_ | refine blk_alloc ?_ _)); refine blk_far ?_ NB245_246.out _; (with_reducible repeat (first | refine blk_drewN ?_ _ | refine blk_drew ?_ | refine blk_alloc ?_ _)); exact BK245.out⟩, ⟨by (with_reducible repeat (first | refine blk_drewN ?_ _ | refine blk_drew ?_ | refine blk_alloc ?_ _)); refine blk_put (cs := #[.string x247000_1, u247001]) ?_ 1 _ rfl; (with_reducible repeat (first | refine blk_drewN ?_ _ | refine blk_drew ?_ | refine blk_alloc ?_ _)); exact BK246.out⟩, ⟨by repeat (first | (with_reducible first | exact HB.out | apply below_alloc | apply pw_below_drewN | apply below_drew1 | refine below_set ?_ GE245.out | refine below_set ?_ GE246.out) | exact HB.out)⟩⟩
                          · rw [if_neg c40] at H
                            exact absurd H (by simp)
                        · rw [if_neg c39] at H
                          exact absurd H (by simp)
                      · rw [if_neg c38] at H
                        have c38b0 : ((bt (rdOf ByteArray.empty t247 x11_1) 0) == 99) = false := beq_eq_false_iff_ne.mpr c38
                        have c38b1 : ((bt (rdOf ByteArray.empty t247 x11_1) 0) != 99) = true := bne_iff_ne.mpr c38
                        have H' := Aside0.mk H
                        clear H
                        have p37 : 0 ≤ (0 : Int) := (by omega)
                        have q37 : 0 < (rdOf ByteArray.empty t247 x11_1).size := (by have : (0 : Int) < ((rdOf ByteArray.empty t247 x11_1).size : Int) := of_decide_eq_true (by first | (with_reducible assumption) | assumption); omega)
                        have hx37 : ∀ h : 0 < (rdOf ByteArray.empty t247 x11_1).size, (((rdOf ByteArray.empty t247 x11_1)[0]'h).toNat : Int) = bt (rdOf ByteArray.empty t247 x11_1) 0 := bt_at (rdOf ByteArray.empty t247 x11_1) 0
                        clear p37
                        have qi37 : (0 < ((rdOf ByteArray.empty t247 x11_1).size : Int)) = True := eq_true (of_decide_eq_true (by first | (with_reducible assumption) | assumption))
                        replace q37 := eq_true q37
                        go_wp2
                        go_roundg kj11
                        case measure => have := HK1.out; have := HJ11.out; omega
                        case rel => exact ⟨(wrap64 (x11_1 + 1)), (x247000_1), (x247001_1), (u247001), (by first | rfl | (simp; done) | (simp [*]; done)), H', ⟨by have := HK1.out; have := HJ11.out; omega⟩, ⟨by (with_reducible repeat (first | apply Kd.R_alloc | apply Kd.R_drewN | apply Kd.R_drew)); exact HO_9.out⟩, ⟨by (with_reducible repeat (first | apply Kd.R_alloc | apply Kd.R_drewN | apply Kd.R_drew)); exact HO_247001.out⟩, ⟨by (with_reducible repeat (first | refine blk_drewN ?_ _ | refine blk_drew ?_ | refine blk_alloc ?_ _)); exact BK245.out⟩, ⟨by (with_reducible repeat (first | refine blk_drewN ?_ _ | refine blk_drew ?_ | refine blk_alloc ?_ _)); exact BK246.out⟩, ⟨by repeat (first | (with_reducible first | exact HB.out | apply below_alloc | apply pw_below_drewN | apply below_drew1 | refine below_set ?_ GE245.out | refine below_set ?_ GE246.out) | exact HB.out)⟩⟩
                    · rw [if_neg c36] at H
                      exact absurd H (by simp)
                  · rw [if_neg c35] at H
                    have c35b0 : decide (0 < ((rdOf ByteArray.empty t247 x11_1).size : Int)) = false := decide_eq_false c35
                    have c35b1 : decide (0 < (rdOf ByteArray.empty t247 x11_1).size) = false := decide_eq_false (by omega)
                    clear c35
                    have H' := Aside0.mk H
                    clear H
                    go_wp2
                    go_roundg kj11
                    case measure => have := HK1.out; have := HJ11.out; omega
                    case rel => exact ⟨(wrap64 (x11_1 + 1)), (x247000_1), (x247001_1), (u247001), (by first | rfl | (simp; done) | (simp [*]; done)), H', ⟨by have := HK1.out; have := HJ11.out; omega⟩, ⟨by (with_reducible repeat (first | apply Kd.R_alloc | apply Kd.R_drewN | apply Kd.R_drew)); exact HO_9.out⟩, ⟨by (with_reducible repeat (first | apply Kd.R_alloc | apply Kd.R_drewN | apply Kd.R_drew)); exact HO_247001.out⟩, ⟨by (with_reducible repeat (first | refine blk_drewN ?_ _ | refine blk_drew ?_ | refine blk_alloc ?_ _)); exact BK245.out⟩, ⟨by (with_reducible repeat (first | refine blk_drewN ?_ _ | refine blk_drew ?_ | refine blk_alloc ?_ _)); exact BK246.out⟩, ⟨by repeat (first | (with_reducible first | exact HB.out | apply below_alloc | apply pw_below_drewN | apply below_drew1 | refine below_set ?_ GE245.out | refine below_set ?_ GE246.out) | exact HB.out)⟩⟩
          · rw [if_neg c11] at H
            exact absurd H (by simp)
        · rw [if_neg c10] at H
          exact absurd H (by simp)
      · rw [if_neg c9] at H
        have c9b0 : decide (x11_1 < (t247.length : Int)) = false := decide_eq_false c9
        clear c9
        simp only [Option.some.injEq, Prod.mk.injEq] at H
        obtain ⟨rfl, rfl⟩ := H
        have hnb45 := NB246_245.out
        have hnc45 := NB245_246.out
        have hcz46_0 : wr.cell? ⟨gb246, 0, none⟩ = some (.string x247000_1) := (blk_cell BK246.out 0).trans rfl
        have hcz46_1 : wr.cell? ⟨gb246, 1, none⟩ = some (u247001) := (blk_cell BK246.out 1).trans rfl
        have hfz46_0 := blk_frozen BK246.out 0
        have hfz46_1 := blk_frozen BK246.out 1
        have hcz47_0 : wr.cell? ⟨gb245, 0, none⟩ = some (.string (⟨#[]⟩ : ByteArray)) := (blk_cell BK245.out 0).trans rfl
        have hcz47_1 : wr.cell? ⟨gb245, 1, none⟩ = some (.slice none 0 0) := (blk_cell BK245.out 1).trans rfl
        have hfz47_0 := blk_frozen BK245.out 0
        have hfz47_1 := blk_frozen BK245.out 1
        obtain ⟨Ao48, co48, eo48⟩ := Kd.R_slice HO_247001.out
        subst eo48
        go_wp2
        refine bodyPost_ret (results_cell_row rfl _ _ gb245 43 #[.string x247000_1, .slice Ao48 x247001_1.length co48] (0, 0) _ rfl (by (with_reducible repeat (first | refine blk_drewN ?_ _ | refine blk_drew ?_ | refine blk_alloc ?_ _)); refine blk_put (cs := #[.string x247000_1, .slice none 0 0]) ?_ 1 _ rfl; (with_reducible repeat (first | refine blk_drewN ?_ _ | refine blk_drew ?_ | refine blk_alloc ?_ _)); refine blk_put (cs := #[.string (⟨#[]⟩ : ByteArray), .slice none 0 0]) ?_ 0 _ rfl; (with_reducible repeat (first | refine blk_drewN ?_ _ | refine blk_drew ?_ | refine blk_alloc ?_ _)); exact BK245.out) Try.underlying43 rfl (by kernel_rfl)) rfl ?_
        exact ⟨_, by first | rfl | (simp [errW_none, errW_some] <;> rfl) | (simp [*, errW_none, errW_some] <;> rfl), by (with_reducible repeat (first | apply Kd.R_alloc | apply Kd.R_drewN | apply Kd.R_drew)); exact Kd.R_mono (Kd.R_far (p := ⟨gb245, 1, none⟩) (Kd.R_far (p := ⟨gb245, 0, none⟩) (Kd.R_types HO_247001.out BK245.out (by decide)) (fun _ hk => hk.2) (.string x247000_1)) (fun _ hk => hk.2) (.slice Ao48 x247001_1.length co48)) (fun _ hk => trivial), by repeat (first | (with_reducible first | exact HB.out | apply below_alloc | apply pw_below_drewN | apply below_drew1 | refine below_set ?_ GE245.out | refine below_set ?_ GE246.out) | exact HB.out)⟩

end Go.Proofs.Ytdbbhijicmeckaa.Q
