/- One operation of a region that draws its order, in one row each: pure, left out, or a load. -/
import Derived.Test.YtbmfcikjhnnnbaaQx0
namespace Go.Proofs.YtbmfcikjhnnnbaaW.PrintLast
section
variable {P : Program} {ops : Array Oper} {Q : Exit → Act → World → Prop} {md : Region.Mode} {S : World → Prop} {ds : List Nat} {oi : Oper} {v : Value} {fuel : Nat} {l : Array Bool} {a a' : Act} {w : World}
open Go.Proofs.YtbmfcikjhnnnbaaW.PrintWords in
theorem p_ (i : Nat) (N : Option Tmp) (l' : Array Bool) (h : wpAnyLast P md ops Q S ds fuel l' a' w) (hi : ops[i]? = some oi := by exact rfl) (hN : oi.dst = N := by exact rfl) (hc : anyB md ops l l' i = true := by kernel_rfl) (hw : Region.wanted oi (yielded ops a.tmps) = true := by rfl)
    (hv : ∀ w', (execOp a.eval oi).run P w' = .ok (.value v) w' := by intro w'; go_simp; with_reducible rfl) (ha : a.put N v = a' := by simp only [Act.put, List.setIfInBounds_toArray, List.set_cons_zero, List.set_cons_succ, i64_w, i32_w]; rfl) (hQ : ∀ c a w, Q (.panic c) (a.put oi.dst v) w → Q (.panic c) a w := by exact fun _ _ _ h => h) :
    wpAnyLast P md ops Q S ds (fuel + 1) l a w := pure_ l' hi hN hc hQ (Or.inl ⟨hw, hv⟩) ha h
open Go.Proofs.YtbmfcikjhnnnbaaW.PrintWords in
theorem u_ (i : Nat) (N : Option Tmp) (l' : Array Bool) (h : wpAnyLast P md ops Q S ds fuel l' a' w) (hi : ops[i]? = some oi := by exact rfl) (hN : oi.dst = N := by exact rfl) (hc : anyB md ops l l' i = true := by kernel_rfl) (hw : Region.wanted oi (yielded ops a.tmps) = false := by rfl)
    (ha : a.put N undef = a' := by simp only [Act.put, List.setIfInBounds_toArray, List.set_cons_zero, List.set_cons_succ, i64_w, i32_w]; rfl) (hQ : ∀ c a w, Q (.panic c) (a.put oi.dst undef) w → Q (.panic c) a w := by exact fun _ _ _ h => h) :
    wpAnyLast P md ops Q S ds (fuel + 1) l a w := pure_ l' hi hN hc hQ (Or.inr ⟨hw, rfl⟩) ha h
open Go.Proofs.YtbmfcikjhnnnbaaW.PrintWords in
theorem t_ (i : Nat) (N : Option Tmp) (l' : Array Bool) (hS : S w) (hi : ops[i]? = some oi := by exact rfl) (hN : oi.dst = N := by exact rfl) (hc : takeB md ops ds l l' i = true := by kernel_rfl) (hw : Region.wanted oi (yielded ops a.tmps) = true := by rfl)
    (hv : ∀ w', S w' → (execOp a.eval oi).run P w' = .ok (.value v) w') (h : wpAnyLast P md ops Q S ds fuel l' a' w) (ha : a.put N v = a' := by simp only [Act.put, List.setIfInBounds_toArray, List.set_cons_zero, List.set_cons_succ, i64_w, i32_w]; rfl) (hQ : ∀ c a w, Q (.panic c) (a.put oi.dst v) w → Q (.panic c) a w := by exact fun _ _ _ h => h) :
    wpAnyLast P md ops Q S ds (fuel + 1) l a w := take_ l' hi hN hc hQ (Or.inl ⟨hw, hv⟩) hS ha h
open Go.Proofs.YtbmfcikjhnnnbaaW.PrintWords in
theorem vb_ {A B : Prop} (h : A) (k : A → B := by (intro h; (with_reducible repeat (first | refine blk_drewN ?_ _ | refine blk_drew ?_ | refine blk_alloc ?_ _)); exact h)) : B := k h
open Go.Proofs.YtbmfcikjhnnnbaaW.PrintWords in
theorem wb_ {A B : Prop} (h : A) (k : A → B := by (intro h; repeat (first | (with_reducible first | exact h | apply below_alloc | apply pw_below_drewN | apply below_drew1) | exact h))) : B := k h
open Go.Proofs.YtbmfcikjhnnnbaaW.PrintWords in
theorem kN_ {A B : Prop} (h : A) (k : A → B := by (intro h; (with_reducible repeat (first | apply Kd.N_alloc | apply Kd.N_drewN | apply Kd.N_drew)); exact h)) : B := k h
open Go.Proofs.YtbmfcikjhnnnbaaW.PrintWords in
theorem kV_ {A B : Prop} (h : A) (k : A → B := by (intro h; (with_reducible repeat (first | apply Kd.V_alloc | apply Kd.V_drewN | apply Kd.V_drew)); exact h)) : B := k h
open Go.Proofs.YtbmfcikjhnnnbaaW.PrintWords in
theorem kS_ {A B : Prop} (h : A) (k : A → B := by (intro h; (with_reducible repeat (first | apply Kd.S_alloc | apply Kd.S_drewN | apply Kd.S_drew)); exact h)) : B := k h
open Go.Proofs.YtbmfcikjhnnnbaaW.PrintWords in
theorem kR_ {A B : Prop} (h : A) (k : A → B := by (intro h; (with_reducible repeat (first | apply Kd.R_alloc | apply Kd.R_drewN | apply Kd.R_drew)); exact h)) : B := k h
end
end Go.Proofs.YtbmfcikjhnnnbaaW.PrintLast
