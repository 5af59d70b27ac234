/- slices.Clone at parcels answers a row of its own with the same parcels.
   Conditions: the list is read as parcels, and is not too long. -/
import Derived.Test.YtganchnnfjdooaaHCount
import Derived.WalkSpells
namespace Go.Proofs.Ytganchnnfjdooaa.Q
open Go.RowKit Go.Proofs.YtganchnnfjdooaaW.PrintWords Go.Proofs.YtganchnnfjdooaaW.PrintLast Go.Proofs.YtganchnnfjdooaaW.PrintMore
set_option linter.unusedVariables false
set_option linter.unusedSimpArgs false

theorem clone_nil (c0 : Nat) (w : World) : Calls Try.prog 21 #[.slice none 0 c0] w fun e w' => e = .returned (.slice none 0 0) ∧ w = w' := by
  have hnil := fun W => Lib.run_eql_slice_nil (P := Try.prog) W 22 27 none 0 c0 0 0 Try.underlying22
  go_enter Try.func21, Try.ntmps21
  go_wp2
  go_ret
  exact ⟨rfl, rfl⟩
set_option maxHeartbeats 1000000 in
set_option maxRecDepth 100000 in
theorem clone_calls (A0 : Option Addr) (c0 : Nat) (l0 : List S27) (w : World) (hr0 : Kd.C k27 w A0 l0.length l0) (hc0 : l0.length ≤ c0) (hlim : l0.length * 48 ≤ 140737488355328) :
    Calls Try.prog 21 #[.slice A0 l0.length c0] w fun e w' => ∃ v, e = .returned v ∧ Kd.R k27 27 w' w.heap.size (fun _ => True) v l0 ∧ Below w.heap.size w w' := by
  rcases A0 with _ | ad
  · have h0 : l0 = [] := by
      rcases Nat.eq_zero_or_pos l0.length with h | h
      · exact List.eq_nil_of_length_eq_zero h
      · obtain ⟨ad, h', _⟩ := hr0.2.2 h
        cases h'
    subst h0
    refine (clone_nil c0 w).mono ?_
    rintro e w' ⟨rfl, rfl⟩
    exact ⟨_, rfl, Kd.R_nil _ _ _ _ _, Below.refl _ _⟩
  · have hnil := fun W => Lib.run_eql_slice_nil (P := Try.prog) W 22 27 (some ad) l0.length c0 0 0 Try.underlying22
    have HB := Aside0.mk (Below.refl w.heap.size w)
    go_enter Try.func21, Try.ntmps21
    go_wp2_with (first | ((with_reducible refine gate_dst (N := 5) rfl ?_); refine Kd.R_lit k27 _ 27 ?hg (N := 5) ?hd (xs := ([] : List S27)) (inner := []) (ok := fun _ => True) (okp := fun _ => True) ?hr ?hp (fun _ hk => hk) trivial (Below.refl _ _) (Nat.le_refl _) (by simp) ?_; (case hd => rfl); (case hg => rfl); (case hr => first | (go_simp; done) | (go_simp; rfl)); (case hp => exact (Reps.none _ _)); intro v1 w1 ho1 hb1 hg1 hnew1; clear hg1 hnew1; replace HB := Aside0.mk hb1; replace ho1 := Aside0.mk ho1; clear hb1) | ((with_reducible refine gate_builtin (b := .append) (xs := #[.tmp 5, .tmp 6]) rfl ?_); at_builtin; refine Kd.R_append_rows k27 (w0 := w) w.heap.size rfl (.tmp 5) (.tmp 6) 22 27 (.agg #[(.int .u64 0), (.int .u64 0), (.string ⟨#[]⟩), (.int .i64 0), (.int .u64 0)]) 48 rfl Try.underlying22 info27 rfl (by decide) (by omega) _ [] l0 _ _ _ (fun _ => True) (fun _ => False) rfl rfl ho1.out (Kd.C_below hr0 HB.out) (fun _ _ h => h) (fun _ h => h.elim) (fun _ _ => trivial) HB.out HB.out.size (by simpa using hlim) ?_; intro v2 w2 ho hb hg hat; clear hg hat; replace ho := Aside0.mk ho; replace HB := Aside0.mk hb; clear hb))
    go_ret
    exact ⟨_, rfl, ho.out, HB.out⟩
end Go.Proofs.Ytganchnnfjdooaa.Q
