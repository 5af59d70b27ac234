/- MailboxTells, walked along the values that it has.
   Conditions: the lists and the parcel are as a reading gives them. -/
import Derived.Test.YtganchnnfjdooaaHPure2
namespace Go.Proofs.Ytganchnnfjdooaa.Q
open Go.RowKit Go.Proofs.YtganchnnfjdooaaW.PrintWords Go.Proofs.YtganchnnfjdooaaW.PrintLast Go.Proofs.YtganchnnfjdooaaW.PrintMore
set_option linter.unusedVariables false
set_option linter.unusedSimpArgs false

theorem few_calls (A : Option Addr) (c : Nat) (l : List S27) (w : World) (hc : l.length ≤ c) :
    Calls Try.prog 6 #[.slice A l.length c] w fun e w' => e = .returned (.slice A (l.take 40).length c) ∧ w' = w := by
  by_cases h : l.length ≤ 40
  · have e : (l.take 40).length = l.length := by rw [List.length_take]; omega
    have hlt : ¬ (40 : Int) < (l.length : Int) := by omega
    have hlt2 : (l.length : Int) ≤ 40 := by omega
    rw [e]
    go_enter Try.func6, Try.ntmps6
    go_wp2
    go_ret
    exact ⟨rfl, rfl⟩
  · have e : (l.take 40).length = 40 := by rw [List.length_take]; omega
    have hlt : (40 : Int) < (l.length : Int) := by omega
    have hc40 : 40 ≤ c := by omega
    rw [e]
    go_enter Try.func6, Try.ntmps6
    go_wp2
    go_ret
    exact ⟨rfl, rfl⟩
set_option maxHeartbeats 4000000 in
set_option maxRecDepth 100000 in
theorem tells_none (A0 : Option Addr) (c0 : Nat) (l0 : List S27) (A1 : Option Addr) (c1 : Nat) (l1 : List S27) (x2 : S27) (a3 a4 : Int) (W : World)
    (hr0 : Kd.C k27 W A0 l0.length l0) (hc0 : l0.length ≤ c0) (hr1 : Kd.C k27 W A1 l1.length l1) (hc1 : l1.length ≤ c1)
    (x y s rest F K : List S27) (e q0 q1 : Int) (q2 : ByteArray) (q3 q4 f : Int) (b : Bool) (hx : l0.take 40 = x) (hy : l1.take 40 = y)
    (hsn : Hid (mailbox_Send.f x x2.f0 x2.f1 x2.f2 x2.f3 x2.f4 = some (s, e))) (htk : Hid (mailbox_Take.f x a3 = some (q0, q1, q2, q3, q4, rest, f))) (hof : Hid (demurralref18_Of.f 41 x a3 = some F))
    (hlk : Hid (mailbox_Like.f 41 x y = some b)) (hsm : Hid (demurralref18_Same.f 41 x y = some b)) (hlx : Hid (mailbox_Like.f 42 x x = some true)) (hcn : Hid (mailbox_Count.f x a3 = some (F.length : Int)))
    (hlt : Hid (mailbox_Later.f x a4 = some K)) (hrl : Hid (demurralref18_Later.f 41 x a4 = some K)) (hkk : Hid (demurralref18_Same.f 42 K K = some true)) (hal : Hid (demurrallaw18_alive.f = some true)) (hnone : Hid (F = [] ∧ f = 5 ∧ q0 = 0 ∧ q1 = 0 ∧ q2 = ⟨#[]⟩ ∧ q3 = 0 ∧ q4 = 0 ∧ rest = []))
    (hsend : Hid ((x2.f0 = x2.f1 ∧ e = 1 ∧ s = []) ∨ (∃ G, x2.f0 ≠ x2.f1 ∧ demurralref18_Of.f 41 x x2.f1 = some G ∧ 16 ≤ G.length ∧ e = 6 ∧ s = []) ∨ (∃ G, x2.f0 ≠ x2.f1 ∧ demurralref18_Of.f 41 x x2.f1 = some G ∧ G.length < 16 ∧ e = 0 ∧ demurralref18_Send.f x x2.f0 x2.f1 x2.f2 x2.f3 x2.f4 = some s ∧ demurralref18_Same.f 42 s s = some true))) :
    Calls Try.prog 5 #[.slice A0 l0.length c0, .slice A1 l1.length c1, .agg #[.int .u64 x2.f0, .int .u64 x2.f1, .string x2.f2, .int .i64 x2.f3, .int .u64 x2.f4], .int .u64 a3, .int .u64 a4] W fun e w' => e = .returned (.bool true) ∧ Below W.heap.size W w' := by
  have hx0 : x.length ≤ c0 := by rw [← hx, List.length_take]; omega
  have hy0 : y.length ≤ c1 := by rw [← hy, List.length_take]; omega
  have hfew0 : Hid (∀ w, Calls Try.prog 6 #[.slice A0 l0.length c0] w fun e w' => e = .returned (.slice A0 x.length c0) ∧ w' = w) := Lib.hid fun w => by rw [← hx]; exact few_calls A0 c0 l0 w hc0
  have hfew1 : Hid (∀ w, Calls Try.prog 6 #[.slice A1 l1.length c1] w fun e w' => e = .returned (.slice A1 y.length c1) ∧ w' = w) := Lib.hid fun w => by rw [← hy]; exact few_calls A1 c1 l1 w hc1
  have hcx : Kd.C k27 W A0 x.length x := by
    rw [← hx]
    rcases Nat.le_total l0.length 40 with h | h
    · rw [List.take_of_length_le h]; exact hr0
    · exact Kd.C_take hr0 h
  have hcy : Kd.C k27 W A1 y.length y := by
    rw [← hy]
    rcases Nat.le_total l1.length 40 with h | h
    · rw [List.take_of_length_le h]; exact hr1
    · exact Kd.C_take hr1 h
  obtain ⟨w1, hw1⟩ : ∃ w1, W.alloc (.cells #[.int .u64 x2.f0, .int .u64 x2.f1, .string x2.f2, .int .i64 x2.f3, .int .u64 x2.f4] 27 (0, 0)) = w1 := ⟨_, rfl⟩
  have HB : Aside0 (Below W.heap.size W w1) := ⟨by rw [← hw1]; exact below_alloc (Below.refl _ _) _⟩
  have B7 : Aside0 (w1.heap[W.heap.size]? = some (.cells #[.int .u64 x2.f0, .int .u64 x2.f1, .string x2.f2, .int .i64 x2.f3, .int .u64 x2.f4] 27 (0, 0))) := ⟨by rw [← hw1]; exact heap_alloc_new _ _⟩
  have Cx := Aside0.mk (Kd.C_below hcx HB.out)
  have Cy := Aside0.mk (Kd.C_below hcy HB.out)
  have hbb : (b != b) = false := by cases b <;> rfl
  obtain ⟨z0, z1, z2, z3, z4, _⟩ := box_cells B7.out
  clear hcx hcy hr0 hr1
  go_enter Try.func5, Try.ntmps5
  go_wp2_with fail
  refine (hfew0.out _).mono ?_; rintro e wq ⟨rfl, rfl⟩
  go_wp2_with fail
  refine (hfew1.out _).mono ?_; rintro e wq ⟨rfl, rfl⟩
  go_wp2_with fail
  refine (mailbox_Send.calls A0 c0 x x2.f0 x2.f1 x2.f2 x2.f3 x2.f4 s e _ Cx.out hx0 hsn.out).mono ?_; rintro e_ w2 ⟨v, rfl, ho, hb⟩; obtain ⟨As, cs, rfl, hcs, h_⟩ := Kd.R_reads ho; have Cs := Aside0.mk h_; clear ho h_; replace Cx := Aside0.mk (Kd.C_below Cx.out hb); replace Cy := Aside0.mk (Kd.C_below Cy.out hb); replace B7 := Aside0.mk ((hb.block _ (Array.getElem?_eq_some_iff.1 B7.out).1).trans B7.out); replace HB := Aside0.mk (below_step HB.out hb); clear hb; clear z0 z1 z2 z3 z4
  go_wp2_with fail
  refine (mailbox_Take.calls A0 c0 x a3 q0 q1 q2 q3 q4 rest f _ Cx.out hx0 htk.out).mono ?_; rintro e_ w3 ⟨v, rfl, ho, hb⟩; obtain ⟨At, ct, rfl, hct, h_⟩ := Kd.R_reads ho; have Ct := Aside0.mk h_; clear ho h_; replace Cx := Aside0.mk (Kd.C_below Cx.out hb); replace Cy := Aside0.mk (Kd.C_below Cy.out hb); replace Cs := Aside0.mk (Kd.C_below Cs.out hb); replace B7 := Aside0.mk ((hb.block _ (Array.getElem?_eq_some_iff.1 B7.out).1).trans B7.out); replace HB := Aside0.mk (below_step HB.out hb); clear hb; obtain ⟨w4, hw4⟩ : ∃ w4, w3.alloc (.cells #[.int .u64 q0, .int .u64 q1, .string q2, .int .i64 q3, .int .u64 q4] 27 (0, 0)) = w4 := ⟨_, rfl⟩; have B13 := Aside0.mk (show w4.heap[w3.heap.size]? = some (.cells #[.int .u64 q0, .int .u64 q1, .string q2, .int .i64 q3, .int .u64 q4] 27 (0, 0)) by rw [← hw4]; exact heap_alloc_new _ _); have hb : Below w3.heap.size w3 w4 := (by rw [← hw4]; exact below_alloc (Below.refl _ _) _); replace Cx := Aside0.mk (Kd.C_below Cx.out hb); replace Cy := Aside0.mk (Kd.C_below Cy.out hb); replace Cs := Aside0.mk (Kd.C_below Cs.out hb); replace Ct := Aside0.mk (Kd.C_below Ct.out hb); replace B7 := Aside0.mk ((hb.block _ (Array.getElem?_eq_some_iff.1 B7.out).1).trans B7.out); replace HB := Aside0.mk (below_step HB.out hb); clear hb
  go_wp2_with fail
  refine (demurralref18_Of.calls 41 A0 c0 x a3 F _ Cx.out hx0 hof.out).mono ?_; rintro e_ w5 ⟨v, rfl, ho, hb⟩; obtain ⟨Af, cf, rfl, hcf, h_⟩ := Kd.R_reads ho; have Cf := Aside0.mk h_; clear ho h_; replace Cx := Aside0.mk (Kd.C_below Cx.out hb); replace Cy := Aside0.mk (Kd.C_below Cy.out hb); replace Cs := Aside0.mk (Kd.C_below Cs.out hb); replace Ct := Aside0.mk (Kd.C_below Ct.out hb); replace B7 := Aside0.mk ((hb.block _ (Array.getElem?_eq_some_iff.1 B7.out).1).trans B7.out); replace B13 := Aside0.mk ((hb.block _ (Array.getElem?_eq_some_iff.1 B13.out).1).trans B13.out); replace HB := Aside0.mk (below_step HB.out hb); clear hb
  go_wp2_with fail
  refine (mailbox_Like.calls 41 A0 c0 x A1 c1 y b _ Cx.out hx0 Cy.out hy0 hlk.out).mono ?_; rintro e_ w6 ⟨rfl, hd⟩; have hb := hd.below; clear hd; replace Cx := Aside0.mk (Kd.C_below Cx.out hb); replace Cy := Aside0.mk (Kd.C_below Cy.out hb); replace Cs := Aside0.mk (Kd.C_below Cs.out hb); replace Ct := Aside0.mk (Kd.C_below Ct.out hb); replace Cf := Aside0.mk (Kd.C_below Cf.out hb); replace B7 := Aside0.mk ((hb.block _ (Array.getElem?_eq_some_iff.1 B7.out).1).trans B7.out); replace B13 := Aside0.mk ((hb.block _ (Array.getElem?_eq_some_iff.1 B13.out).1).trans B13.out); replace HB := Aside0.mk (below_step HB.out hb); clear hb
  go_wp2_with fail
  refine (demurralref18_Same.calls 41 A0 c0 x A1 c1 y b _ Cx.out hx0 Cy.out hy0 hsm.out).mono ?_; rintro e_ w7 ⟨rfl, hd⟩; have hb := hd.below; clear hd; replace Cx := Aside0.mk (Kd.C_below Cx.out hb); replace Cy := Aside0.mk (Kd.C_below Cy.out hb); replace Cs := Aside0.mk (Kd.C_below Cs.out hb); replace Ct := Aside0.mk (Kd.C_below Ct.out hb); replace Cf := Aside0.mk (Kd.C_below Cf.out hb); replace B7 := Aside0.mk ((hb.block _ (Array.getElem?_eq_some_iff.1 B7.out).1).trans B7.out); replace B13 := Aside0.mk ((hb.block _ (Array.getElem?_eq_some_iff.1 B13.out).1).trans B13.out); replace HB := Aside0.mk (below_step HB.out hb); clear hb
  go_wp2_with fail
  refine (mailbox_Like.calls 42 A0 c0 x A0 c0 x true _ Cx.out hx0 Cx.out hx0 hlx.out).mono ?_; rintro e_ w8 ⟨rfl, hd⟩; have hb := hd.below; clear hd; replace Cx := Aside0.mk (Kd.C_below Cx.out hb); replace Cy := Aside0.mk (Kd.C_below Cy.out hb); replace Cs := Aside0.mk (Kd.C_below Cs.out hb); replace Ct := Aside0.mk (Kd.C_below Ct.out hb); replace Cf := Aside0.mk (Kd.C_below Cf.out hb); replace B7 := Aside0.mk ((hb.block _ (Array.getElem?_eq_some_iff.1 B7.out).1).trans B7.out); replace B13 := Aside0.mk ((hb.block _ (Array.getElem?_eq_some_iff.1 B13.out).1).trans B13.out); replace HB := Aside0.mk (below_step HB.out hb); clear hb
  go_wp2_with fail
  refine (mailbox_Count.calls A0 c0 x a3 F.length _ Cx.out hx0 hcn.out).mono ?_; rintro e_ w9 ⟨rfl, hb⟩; replace Cx := Aside0.mk (Kd.C_below Cx.out hb); replace Cy := Aside0.mk (Kd.C_below Cy.out hb); replace Cs := Aside0.mk (Kd.C_below Cs.out hb); replace Ct := Aside0.mk (Kd.C_below Ct.out hb); replace Cf := Aside0.mk (Kd.C_below Cf.out hb); replace B7 := Aside0.mk ((hb.block _ (Array.getElem?_eq_some_iff.1 B7.out).1).trans B7.out); replace B13 := Aside0.mk ((hb.block _ (Array.getElem?_eq_some_iff.1 B13.out).1).trans B13.out); replace HB := Aside0.mk (below_step HB.out hb); clear hb
  go_wp2_with fail
  refine (mailbox_Later.calls A0 c0 x a4 K _ Cx.out hx0 hlt.out).mono ?_; rintro e_ w10 ⟨v, rfl, ho, hb⟩; obtain ⟨Ak, ck, rfl, hck, h_⟩ := Kd.R_reads ho; have Ck := Aside0.mk h_; clear ho h_; replace Cx := Aside0.mk (Kd.C_below Cx.out hb); replace Cy := Aside0.mk (Kd.C_below Cy.out hb); replace Cs := Aside0.mk (Kd.C_below Cs.out hb); replace Ct := Aside0.mk (Kd.C_below Ct.out hb); replace Cf := Aside0.mk (Kd.C_below Cf.out hb); replace B7 := Aside0.mk ((hb.block _ (Array.getElem?_eq_some_iff.1 B7.out).1).trans B7.out); replace B13 := Aside0.mk ((hb.block _ (Array.getElem?_eq_some_iff.1 B13.out).1).trans B13.out); replace HB := Aside0.mk (below_step HB.out hb); clear hb
  go_wp2_with fail
  refine (demurralref18_Later.calls 41 A0 c0 x a4 K _ Cx.out hx0 hrl.out).mono ?_; rintro e_ w11 ⟨v, rfl, ho, hb⟩; obtain ⟨Al, cl, rfl, hcl, h_⟩ := Kd.R_reads ho; have Cl := Aside0.mk h_; clear ho h_; replace Cx := Aside0.mk (Kd.C_below Cx.out hb); replace Cy := Aside0.mk (Kd.C_below Cy.out hb); replace Cs := Aside0.mk (Kd.C_below Cs.out hb); replace Ct := Aside0.mk (Kd.C_below Ct.out hb); replace Cf := Aside0.mk (Kd.C_below Cf.out hb); replace Ck := Aside0.mk (Kd.C_below Ck.out hb); replace B7 := Aside0.mk ((hb.block _ (Array.getElem?_eq_some_iff.1 B7.out).1).trans B7.out); replace B13 := Aside0.mk ((hb.block _ (Array.getElem?_eq_some_iff.1 B13.out).1).trans B13.out); replace HB := Aside0.mk (below_step HB.out hb); clear hb
  go_wp2_with fail
  refine (demurralref18_Same.calls 42 Ak ck K Al cl K true _ Ck.out hck Cl.out hcl hkk.out).mono ?_; rintro e_ w12 ⟨rfl, hd⟩; have hb := hd.below; clear hd; replace Cx := Aside0.mk (Kd.C_below Cx.out hb); replace Cy := Aside0.mk (Kd.C_below Cy.out hb); replace Cs := Aside0.mk (Kd.C_below Cs.out hb); replace Ct := Aside0.mk (Kd.C_below Ct.out hb); replace Cf := Aside0.mk (Kd.C_below Cf.out hb); replace B7 := Aside0.mk ((hb.block _ (Array.getElem?_eq_some_iff.1 B7.out).1).trans B7.out); replace B13 := Aside0.mk ((hb.block _ (Array.getElem?_eq_some_iff.1 B13.out).1).trans B13.out); replace HB := Aside0.mk (below_step HB.out hb); clear hb
  go_wp2_with fail
  refine (demurrallaw18_alive.calls true _ hal.out).mono ?_; rintro e_ w13 ⟨rfl, hb⟩; replace Cx := Aside0.mk (Kd.C_below Cx.out hb); replace Cy := Aside0.mk (Kd.C_below Cy.out hb); replace Cs := Aside0.mk (Kd.C_below Cs.out hb); replace Ct := Aside0.mk (Kd.C_below Ct.out hb); replace Cf := Aside0.mk (Kd.C_below Cf.out hb); replace B7 := Aside0.mk ((hb.block _ (Array.getElem?_eq_some_iff.1 B7.out).1).trans B7.out); replace B13 := Aside0.mk ((hb.block _ (Array.getElem?_eq_some_iff.1 B13.out).1).trans B13.out); replace HB := Aside0.mk (below_step HB.out hb); clear hb
  go_wp2_with fail
  obtain ⟨rfl, rfl, rfl, rfl, rfl, rfl, rfl, rfl⟩ := hnone.out
  have ht17 : (((([] : List S27).length : Nat) : Int) == 0) = true := rfl
  have hq : Hid (∀ w, Below w13.heap.size w13 w → w.cell? ⟨w3.heap.size, 0, none⟩ = some (.int .u64 0) ∧ w.cell? ⟨w3.heap.size, 1, none⟩ = some (.int .u64 0) ∧ w.cell? ⟨w3.heap.size, 2, none⟩ = some (.string ⟨#[]⟩) ∧ w.cell? ⟨w3.heap.size, 3, none⟩ = some (.int .i64 0) ∧ w.cell? ⟨w3.heap.size, 4, none⟩ = some (.int .u64 0)) := Lib.hid fun w hw => by
    obtain ⟨z0, z1, z2, z3, z4, _⟩ := box_cells ((hw.block _ (Array.getElem?_eq_some_iff.1 B13.out).1).trans B13.out)
    exact ⟨z0, z1, z2, z3, z4⟩
  refine start_ (n := 38) (S := fun w' => w'.cell? ⟨w3.heap.size, 0, none⟩ = some (.int .u64 0) ∧ w'.cell? ⟨w3.heap.size, 1, none⟩ = some (.int .u64 0) ∧ w'.cell? ⟨w3.heap.size, 2, none⟩ = some (.string ⟨#[]⟩) ∧ w'.cell? ⟨w3.heap.size, 3, none⟩ = some (.int .i64 0) ∧ w'.cell? ⟨w3.heap.size, 4, none⟩ = some (.int .u64 0)) (ds := []) #[false, false, false, false, false, false, false, false, false, false, false, false, false, false, false, false, false, false, false, false, false, false, false, false, false, false, false, false, false, false, false, false, false, false, false, false, false, false] (by kernel_rfl) rfl rfl ⟨(hq.out _ (Below.refl _ _).drew).1, (hq.out _ (Below.refl _ _).drew).2.1, (hq.out _ (Below.refl _ _).drew).2.2.1, (hq.out _ (Below.refl _ _).drew).2.2.2.1, (hq.out _ (Below.refl _ _).drew).2.2.2.2⟩ (fun hHeld => ?_)
  refine pure_ (i := 0) (N := some 76) (v := ?_) (a' := ?_) #[true, false, false, false, false, false, false, false, false, false, false, false, false, false, false, false, false, false, false, false, false, false, false, false, false, false, false, false, false, false, false, false, false, false, false, false, false, false] rfl rfl (by kernel_rfl) (fun _ _ _ h => h) (Or.inl ⟨by rfl, ?_⟩) ?_ ?_
  rotate_left
  · intro w'
    go_simp
    with_reducible rfl
  rotate_left
  · simp only [Act.put, List.setIfInBounds_toArray, List.set_cons_zero, List.set_cons_succ, i64_w, i32_w]
    rfl
  refine pure_ (i := 1) (N := some 77) (v := ?_) (a' := ?_) #[true, true, false, false, false, false, false, false, false, false, false, false, false, false, false, false, false, false, false, false, false, false, false, false, false, false, false, false, false, false, false, false, false, false, false, false, false, false] rfl rfl (by kernel_rfl) (fun _ _ _ h => h) (Or.inl ⟨by rfl, ?_⟩) ?_ ?_
  rotate_left
  · intro w'
    go_simp
    with_reducible rfl
  rotate_left
  · simp only [Act.put, List.setIfInBounds_toArray, List.set_cons_zero, List.set_cons_succ, i64_w, i32_w]
    rfl
  refine pure_ (i := 2) (N := some 78) (v := ?_) (a' := ?_) #[true, true, true, false, false, false, false, false, false, false, false, false, false, false, false, false, false, false, false, false, false, false, false, false, false, false, false, false, false, false, false, false, false, false, false, false, false, false] rfl rfl (by kernel_rfl) (fun _ _ _ h => h) (Or.inl ⟨by rfl, ?_⟩) ?_ ?_
  rotate_left
  · intro w'
    go_simp
    with_reducible rfl
  rotate_left
  · simp only [Act.put, List.setIfInBounds_toArray, List.set_cons_zero, List.set_cons_succ, i64_w, i32_w]
    rfl
  refine pure_ (i := 3) (N := some 79) (v := ?_) (a' := ?_) #[true, true, true, true, false, false, false, false, false, false, false, false, false, false, false, false, false, false, false, false, false, false, false, false, false, false, false, false, false, false, false, false, false, false, false, false, false, false] rfl rfl (by kernel_rfl) (fun _ _ _ h => h) (Or.inl ⟨by rfl, ?_⟩) ?_ ?_
  rotate_left
  · intro w'
    go_simp
    with_reducible rfl
  rotate_left
  · simp only [Act.put, List.setIfInBounds_toArray, List.set_cons_zero, List.set_cons_succ, i64_w, i32_w]
    rfl
  refine pure_ (i := 4) (N := some 80) (v := ?_) (a' := ?_) #[true, true, true, true, true, false, false, false, false, false, false, false, false, false, false, false, false, false, false, false, false, false, false, false, false, false, false, false, false, false, false, false, false, false, false, false, false, false] rfl rfl (by kernel_rfl) (fun _ _ _ h => h) (Or.inl ⟨by rfl, ?_⟩) ?_ ?_
  rotate_left
  · intro w'
    go_simp
    with_reducible rfl
  rotate_left
  · simp only [Act.put, List.setIfInBounds_toArray, List.set_cons_zero, List.set_cons_succ, i64_w, i32_w]
    rfl
  refine pure_ (i := 6) (N := some 82) (v := ?_) (a' := ?_) #[true, true, true, true, true, false, true, false, false, false, false, false, false, false, false, false, false, false, false, false, false, false, false, false, false, false, false, false, false, false, false, false, false, false, false, false, false, false] rfl rfl (by kernel_rfl) (fun _ _ _ h => h) (Or.inl ⟨by rfl, ?_⟩) ?_ ?_
  rotate_left
  · intro w'
    go_simp
    with_reducible rfl
  rotate_left
  · simp only [Act.put, List.setIfInBounds_toArray, List.set_cons_zero, List.set_cons_succ, i64_w, i32_w]
    rfl
  refine take_ (i := 5) (N := some 81) (v := ?_) (a' := ?_) #[true, true, true, true, true, true, true, false, false, false, false, false, false, false, false, false, false, false, false, false, false, false, false, false, false, false, false, false, false, false, false, false, false, false, false, false, false, false] rfl rfl (by kernel_rfl) (fun _ _ _ h => h) (Or.inl ⟨by rfl, ?_⟩) hHeld ?_ ?_
  rotate_left
  · rintro w' ⟨s0, s1, s2, s3, s4⟩
    go_simp
    with_reducible rfl
  rotate_left
  · simp only [Act.put, List.setIfInBounds_toArray, List.set_cons_zero, List.set_cons_succ, i64_w, i32_w]
    rfl
  refine pure_ (i := 7) (N := some 83) (v := ?_) (a' := ?_) #[true, true, true, true, true, true, true, true, false, false, false, false, false, false, false, false, false, false, false, false, false, false, false, false, false, false, false, false, false, false, false, false, false, false, false, false, false, false] rfl rfl (by kernel_rfl) (fun _ _ _ h => h) (Or.inl ⟨by rfl, ?_⟩) ?_ ?_
  rotate_left
  · intro w'
    go_simp
    with_reducible rfl
  rotate_left
  · simp only [Act.put, List.setIfInBounds_toArray, List.set_cons_zero, List.set_cons_succ, i64_w, i32_w]
    rfl
  refine pure_ (i := 8) (N := some 84) (v := ?_) (a' := ?_) #[true, true, true, true, true, true, true, true, true, false, false, false, false, false, false, false, false, false, false, false, false, false, false, false, false, false, false, false, false, false, false, false, false, false, false, false, false, false] rfl rfl (by kernel_rfl) (fun _ _ _ h => h) (Or.inl ⟨by rfl, ?_⟩) ?_ ?_
  rotate_left
  · intro w'
    go_simp
    with_reducible rfl
  rotate_left
  · simp only [Act.put, List.setIfInBounds_toArray, List.set_cons_zero, List.set_cons_succ, i64_w, i32_w]
    rfl
  refine pure_ (i := 9) (N := some 85) (v := ?_) (a' := ?_) #[true, true, true, true, true, true, true, true, true, true, false, false, false, false, false, false, false, false, false, false, false, false, false, false, false, false, false, false, false, false, false, false, false, false, false, false, false, false] rfl rfl (by kernel_rfl) (fun _ _ _ h => h) (Or.inl ⟨by rfl, ?_⟩) ?_ ?_
  rotate_left
  · intro w'
    go_simp
    with_reducible rfl
  rotate_left
  · simp only [Act.put, List.setIfInBounds_toArray, List.set_cons_zero, List.set_cons_succ, i64_w, i32_w]
    rfl
  refine pure_ (i := 10) (N := some 86) (v := ?_) (a' := ?_) #[true, true, true, true, true, true, true, true, true, true, true, false, false, false, false, false, false, false, false, false, false, false, false, false, false, false, false, false, false, false, false, false, false, false, false, false, false, false] rfl rfl (by kernel_rfl) (fun _ _ _ h => h) (Or.inl ⟨by rfl, ?_⟩) ?_ ?_
  rotate_left
  · intro w'
    go_simp
    with_reducible rfl
  rotate_left
  · simp only [Act.put, List.setIfInBounds_toArray, List.set_cons_zero, List.set_cons_succ, i64_w, i32_w]
    rfl
  refine pure_ (i := 11) (N := some 87) (v := ?_) (a' := ?_) #[true, true, true, true, true, true, true, true, true, true, true, true, false, false, false, false, false, false, false, false, false, false, false, false, false, false, false, false, false, false, false, false, false, false, false, false, false, false] rfl rfl (by kernel_rfl) (fun _ _ _ h => h) (Or.inl ⟨by rfl, ?_⟩) ?_ ?_
  rotate_left
  · intro w'
    go_simp
    with_reducible rfl
  rotate_left
  · simp only [Act.put, List.setIfInBounds_toArray, List.set_cons_zero, List.set_cons_succ, i64_w, i32_w]
    rfl
  refine pure_ (i := 12) (N := some 88) (v := ?_) (a' := ?_) #[true, true, true, true, true, true, true, true, true, true, true, true, true, false, false, false, false, false, false, false, false, false, false, false, false, false, false, false, false, false, false, false, false, false, false, false, false, false] rfl rfl (by kernel_rfl) (fun _ _ _ h => h) (Or.inl ⟨by rfl, ?_⟩) ?_ ?_
  rotate_left
  · intro w'
    go_simp
    with_reducible rfl
  rotate_left
  · simp only [Act.put, List.setIfInBounds_toArray, List.set_cons_zero, List.set_cons_succ, i64_w, i32_w]
    rfl
  refine pure_ (i := 13) (N := some 89) (v := ?_) (a' := ?_) #[true, true, true, true, true, true, true, true, true, true, true, true, true, true, false, false, false, false, false, false, false, false, false, false, false, false, false, false, false, false, false, false, false, false, false, false, false, false] rfl rfl (by kernel_rfl) (fun _ _ _ h => h) (Or.inl ⟨by rfl, ?_⟩) ?_ ?_
  rotate_left
  · intro w'
    go_simp
    with_reducible rfl
  rotate_left
  · simp only [Act.put, List.setIfInBounds_toArray, List.set_cons_zero, List.set_cons_succ, i64_w, i32_w]
    rfl
  refine pure_ (i := 14) (N := some 90) (v := ?_) (a' := ?_) #[true, true, true, true, true, true, true, true, true, true, true, true, true, true, true, false, false, false, false, false, false, false, false, false, false, false, false, false, false, false, false, false, false, false, false, false, false, false] rfl rfl (by kernel_rfl) (fun _ _ _ h => h) (Or.inl ⟨by rfl, ?_⟩) ?_ ?_
  rotate_left
  · intro w'
    go_simp
    with_reducible rfl
  rotate_left
  · simp only [Act.put, List.setIfInBounds_toArray, List.set_cons_zero, List.set_cons_succ, i64_w, i32_w]
    rfl
  refine pure_ (i := 15) (N := some 91) (v := ?_) (a' := ?_) #[true, true, true, true, true, true, true, true, true, true, true, true, true, true, true, true, false, false, false, false, false, false, false, false, false, false, false, false, false, false, false, false, false, false, false, false, false, false] rfl rfl (by kernel_rfl) (fun _ _ _ h => h) (Or.inl ⟨by rfl, ?_⟩) ?_ ?_
  rotate_left
  · intro w'
    go_simp
    with_reducible rfl
  rotate_left
  · simp only [Act.put, List.setIfInBounds_toArray, List.set_cons_zero, List.set_cons_succ, i64_w, i32_w]
    rfl
  refine pure_ (i := 16) (N := some 92) (v := ?_) (a' := ?_) #[true, true, true, true, true, true, true, true, true, true, true, true, true, true, true, true, true, false, false, false, false, false, false, false, false, false, false, false, false, false, false, false, false, false, false, false, false, false] rfl rfl (by kernel_rfl) (fun _ _ _ h => h) (Or.inl ⟨by rfl, ?_⟩) ?_ ?_
  rotate_left
  · intro w'
    go_simp
    with_reducible rfl
  rotate_left
  · simp only [Act.put, List.setIfInBounds_toArray, List.set_cons_zero, List.set_cons_succ, i64_w, i32_w]
    rfl
  refine pure_ (i := 17) (N := some 93) (v := ?_) (a' := ?_) #[true, true, true, true, true, true, true, true, true, true, true, true, true, true, true, true, true, true, false, false, false, false, false, false, false, false, false, false, false, false, false, false, false, false, false, false, false, false] rfl rfl (by kernel_rfl) (fun _ _ _ h => h) (Or.inl ⟨by rfl, ?_⟩) ?_ ?_
  rotate_left
  · intro w'
    go_simp
    with_reducible rfl
  rotate_left
  · simp only [Act.put, List.setIfInBounds_toArray, List.set_cons_zero, List.set_cons_succ, i64_w, i32_w]
    rfl
  refine pure_ (i := 18) (N := some 94) (v := ?_) (a' := ?_) #[true, true, true, true, true, true, true, true, true, true, true, true, true, true, true, true, true, true, true, false, false, false, false, false, false, false, false, false, false, false, false, false, false, false, false, false, false, false] rfl rfl (by kernel_rfl) (fun _ _ _ h => h) (Or.inl ⟨by rfl, ?_⟩) ?_ ?_
  rotate_left
  · intro w'
    go_simp
    with_reducible rfl
  rotate_left
  · simp only [Act.put, List.setIfInBounds_toArray, List.set_cons_zero, List.set_cons_succ, i64_w, i32_w]
    rfl
  refine pure_ (i := 19) (N := some 95) (v := undef) (a' := ?_) #[true, true, true, true, true, true, true, true, true, true, true, true, true, true, true, true, true, true, true, true, false, false, false, false, false, false, false, false, false, false, false, false, false, false, false, false, false, false] rfl rfl (by kernel_rfl) (fun _ _ _ h => h) (Or.inr ⟨by rfl, rfl⟩) ?_ ?_
  rotate_left
  · simp only [Act.put, List.setIfInBounds_toArray, List.set_cons_zero, List.set_cons_succ, i64_w, i32_w]
    rfl
  refine pure_ (i := 20) (N := some 96) (v := undef) (a' := ?_) #[true, true, true, true, true, true, true, true, true, true, true, true, true, true, true, true, true, true, true, true, true, false, false, false, false, false, false, false, false, false, false, false, false, false, false, false, false, false] rfl rfl (by kernel_rfl) (fun _ _ _ h => h) (Or.inr ⟨by rfl, rfl⟩) ?_ ?_
  rotate_left
  · simp only [Act.put, List.setIfInBounds_toArray, List.set_cons_zero, List.set_cons_succ, i64_w, i32_w]
    rfl
  refine pure_ (i := 21) (N := some 97) (v := undef) (a' := ?_) #[true, true, true, true, true, true, true, true, true, true, true, true, true, true, true, true, true, true, true, true, true, true, false, false, false, false, false, false, false, false, false, false, false, false, false, false, false, false] rfl rfl (by kernel_rfl) (fun _ _ _ h => h) (Or.inr ⟨by rfl, rfl⟩) ?_ ?_
  rotate_left
  · simp only [Act.put, List.setIfInBounds_toArray, List.set_cons_zero, List.set_cons_succ, i64_w, i32_w]
    rfl
  refine pure_ (i := 22) (N := some 98) (v := undef) (a' := ?_) #[true, true, true, true, true, true, true, true, true, true, true, true, true, true, true, true, true, true, true, true, true, true, true, false, false, false, false, false, false, false, false, false, false, false, false, false, false, false] rfl rfl (by kernel_rfl) (fun _ _ _ h => h) (Or.inr ⟨by rfl, rfl⟩) ?_ ?_
  rotate_left
  · simp only [Act.put, List.setIfInBounds_toArray, List.set_cons_zero, List.set_cons_succ, i64_w, i32_w]
    rfl
  refine pure_ (i := 23) (N := some 99) (v := undef) (a' := ?_) #[true, true, true, true, true, true, true, true, true, true, true, true, true, true, true, true, true, true, true, true, true, true, true, true, false, false, false, false, false, false, false, false, false, false, false, false, false, false] rfl rfl (by kernel_rfl) (fun _ _ _ h => h) (Or.inr ⟨by rfl, rfl⟩) ?_ ?_
  rotate_left
  · simp only [Act.put, List.setIfInBounds_toArray, List.set_cons_zero, List.set_cons_succ, i64_w, i32_w]
    rfl
  refine pure_ (i := 24) (N := some 100) (v := undef) (a' := ?_) #[true, true, true, true, true, true, true, true, true, true, true, true, true, true, true, true, true, true, true, true, true, true, true, true, true, false, false, false, false, false, false, false, false, false, false, false, false, false] rfl rfl (by kernel_rfl) (fun _ _ _ h => h) (Or.inr ⟨by rfl, rfl⟩) ?_ ?_
  rotate_left
  · simp only [Act.put, List.setIfInBounds_toArray, List.set_cons_zero, List.set_cons_succ, i64_w, i32_w]
    rfl
  refine pure_ (i := 25) (N := some 101) (v := undef) (a' := ?_) #[true, true, true, true, true, true, true, true, true, true, true, true, true, true, true, true, true, true, true, true, true, true, true, true, true, true, false, false, false, false, false, false, false, false, false, false, false, false] rfl rfl (by kernel_rfl) (fun _ _ _ h => h) (Or.inr ⟨by rfl, rfl⟩) ?_ ?_
  rotate_left
  · simp only [Act.put, List.setIfInBounds_toArray, List.set_cons_zero, List.set_cons_succ, i64_w, i32_w]
    rfl
  refine pure_ (i := 26) (N := some 102) (v := undef) (a' := ?_) #[true, true, true, true, true, true, true, true, true, true, true, true, true, true, true, true, true, true, true, true, true, true, true, true, true, true, true, false, false, false, false, false, false, false, false, false, false, false] rfl rfl (by kernel_rfl) (fun _ _ _ h => h) (Or.inr ⟨by rfl, rfl⟩) ?_ ?_
  rotate_left
  · simp only [Act.put, List.setIfInBounds_toArray, List.set_cons_zero, List.set_cons_succ, i64_w, i32_w]
    rfl
  refine pure_ (i := 27) (N := some 103) (v := undef) (a' := ?_) #[true, true, true, true, true, true, true, true, true, true, true, true, true, true, true, true, true, true, true, true, true, true, true, true, true, true, true, true, false, false, false, false, false, false, false, false, false, false] rfl rfl (by kernel_rfl) (fun _ _ _ h => h) (Or.inr ⟨by rfl, rfl⟩) ?_ ?_
  rotate_left
  · simp only [Act.put, List.setIfInBounds_toArray, List.set_cons_zero, List.set_cons_succ, i64_w, i32_w]
    rfl
  refine pure_ (i := 28) (N := some 104) (v := undef) (a' := ?_) #[true, true, true, true, true, true, true, true, true, true, true, true, true, true, true, true, true, true, true, true, true, true, true, true, true, true, true, true, true, false, false, false, false, false, false, false, false, false] rfl rfl (by kernel_rfl) (fun _ _ _ h => h) (Or.inr ⟨by rfl, rfl⟩) ?_ ?_
  rotate_left
  · simp only [Act.put, List.setIfInBounds_toArray, List.set_cons_zero, List.set_cons_succ, i64_w, i32_w]
    rfl
  refine pure_ (i := 29) (N := some 105) (v := undef) (a' := ?_) #[true, true, true, true, true, true, true, true, true, true, true, true, true, true, true, true, true, true, true, true, true, true, true, true, true, true, true, true, true, true, false, false, false, false, false, false, false, false] rfl rfl (by kernel_rfl) (fun _ _ _ h => h) (Or.inr ⟨by rfl, rfl⟩) ?_ ?_
  rotate_left
  · simp only [Act.put, List.setIfInBounds_toArray, List.set_cons_zero, List.set_cons_succ, i64_w, i32_w]
    rfl
  refine pure_ (i := 30) (N := some 106) (v := undef) (a' := ?_) #[true, true, true, true, true, true, true, true, true, true, true, true, true, true, true, true, true, true, true, true, true, true, true, true, true, true, true, true, true, true, true, false, false, false, false, false, false, false] rfl rfl (by kernel_rfl) (fun _ _ _ h => h) (Or.inr ⟨by rfl, rfl⟩) ?_ ?_
  rotate_left
  · simp only [Act.put, List.setIfInBounds_toArray, List.set_cons_zero, List.set_cons_succ, i64_w, i32_w]
    rfl
  refine pure_ (i := 31) (N := some 107) (v := undef) (a' := ?_) #[true, true, true, true, true, true, true, true, true, true, true, true, true, true, true, true, true, true, true, true, true, true, true, true, true, true, true, true, true, true, true, true, false, false, false, false, false, false] rfl rfl (by kernel_rfl) (fun _ _ _ h => h) (Or.inr ⟨by rfl, rfl⟩) ?_ ?_
  rotate_left
  · simp only [Act.put, List.setIfInBounds_toArray, List.set_cons_zero, List.set_cons_succ, i64_w, i32_w]
    rfl
  refine pure_ (i := 32) (N := some 108) (v := undef) (a' := ?_) #[true, true, true, true, true, true, true, true, true, true, true, true, true, true, true, true, true, true, true, true, true, true, true, true, true, true, true, true, true, true, true, true, true, false, false, false, false, false] rfl rfl (by kernel_rfl) (fun _ _ _ h => h) (Or.inr ⟨by rfl, rfl⟩) ?_ ?_
  rotate_left
  · simp only [Act.put, List.setIfInBounds_toArray, List.set_cons_zero, List.set_cons_succ, i64_w, i32_w]
    rfl
  refine pure_ (i := 33) (N := some 109) (v := undef) (a' := ?_) #[true, true, true, true, true, true, true, true, true, true, true, true, true, true, true, true, true, true, true, true, true, true, true, true, true, true, true, true, true, true, true, true, true, true, false, false, false, false] rfl rfl (by kernel_rfl) (fun _ _ _ h => h) (Or.inr ⟨by rfl, rfl⟩) ?_ ?_
  rotate_left
  · simp only [Act.put, List.setIfInBounds_toArray, List.set_cons_zero, List.set_cons_succ, i64_w, i32_w]
    rfl
  refine pure_ (i := 34) (N := some 110) (v := undef) (a' := ?_) #[true, true, true, true, true, true, true, true, true, true, true, true, true, true, true, true, true, true, true, true, true, true, true, true, true, true, true, true, true, true, true, true, true, true, true, false, false, false] rfl rfl (by kernel_rfl) (fun _ _ _ h => h) (Or.inr ⟨by rfl, rfl⟩) ?_ ?_
  rotate_left
  · simp only [Act.put, List.setIfInBounds_toArray, List.set_cons_zero, List.set_cons_succ, i64_w, i32_w]
    rfl
  refine pure_ (i := 35) (N := some 111) (v := undef) (a' := ?_) #[true, true, true, true, true, true, true, true, true, true, true, true, true, true, true, true, true, true, true, true, true, true, true, true, true, true, true, true, true, true, true, true, true, true, true, true, false, false] rfl rfl (by kernel_rfl) (fun _ _ _ h => h) (Or.inr ⟨by rfl, rfl⟩) ?_ ?_
  rotate_left
  · simp only [Act.put, List.setIfInBounds_toArray, List.set_cons_zero, List.set_cons_succ, i64_w, i32_w]
    rfl
  refine pure_ (i := 36) (N := some 112) (v := ?_) (a' := ?_) #[true, true, true, true, true, true, true, true, true, true, true, true, true, true, true, true, true, true, true, true, true, true, true, true, true, true, true, true, true, true, true, true, true, true, true, true, true, false] rfl rfl (by kernel_rfl) (fun _ _ _ h => h) (Or.inl ⟨by rfl, ?_⟩) ?_ ?_
  rotate_left
  · intro w'
    go_simp
    with_reducible rfl
  rotate_left
  · simp only [Act.put, List.setIfInBounds_toArray, List.set_cons_zero, List.set_cons_succ, i64_w, i32_w]
    rfl
  refine pure_ (i := 37) (N := some 113) (v := ?_) (a' := ?_) #[true, true, true, true, true, true, true, true, true, true, true, true, true, true, true, true, true, true, true, true, true, true, true, true, true, true, true, true, true, true, true, true, true, true, true, true, true, true] rfl rfl (by kernel_rfl) (fun _ _ _ h => h) (Or.inl ⟨by rfl, ?_⟩) ?_ ?_
  rotate_left
  · intro w'
    go_simp
    with_reducible rfl
  rotate_left
  · simp only [Act.put, List.setIfInBounds_toArray, List.set_cons_zero, List.set_cons_succ, i64_w, i32_w]
    rfl
  refine done_ (by kernel_rfl) ?_
  clear hq
  have hcell7 := fun w (hw : Below w13.heap.size w13 w) => box_cells ((hw.block _ (Array.getElem?_eq_some_iff.1 B7.out).1).trans B7.out)
  obtain ⟨z0, z1, z2, z3, z4, _⟩ := hcell7 w13.drew (Below.refl _ _).drew
  have HBd := Aside0.mk HB.out.drew
  rcases hsend.out with ⟨h1, rfl, rfl⟩ | ⟨G, h1, hG, h16, rfl, rfl⟩ | ⟨G, h1, hG, h16, rfl, hS, hSS⟩
  · have hb1 : (x2.f0 == x2.f1) = true := by simpa using h1
    clear hcell7 hsend hnone
    go_wp2
    go_ret
    exact ⟨rfl, HBd.out⟩
  · have hb1 : (x2.f0 == x2.f1) = false := by simpa using h1
    have h16b : (16 : Int) ≤ (G.length : Int) := by omega
    clear hcell7 hsend hnone h1
    go_wp2_with fail
    refine (demurralref18_Of.calls 41 A0 c0 x x2.f1 G _ (Kd.C_drew Cx.out) hx0 hG).mono ?_; rintro e_ w14 ⟨v, rfl, ho, hb⟩; obtain ⟨Ag, cg, rfl, hcg, h_⟩ := Kd.R_reads ho; clear ho h_
    go_wp2
    go_ret
    exact ⟨rfl, below_step HBd.out hb⟩
  · have hb1 : (x2.f0 == x2.f1) = false := by simpa using h1
    have h16b : ¬ (16 : Int) ≤ (G.length : Int) := by omega
    clear hsend hnone h1
    go_wp2_with fail
    refine (demurralref18_Of.calls 41 A0 c0 x x2.f1 G _ (Kd.C_drew Cx.out) hx0 hG).mono ?_; rintro e_ w14 ⟨v, rfl, ho, hb⟩; obtain ⟨Ag, cg, rfl, hcg, h_⟩ := Kd.R_reads ho; clear ho h_
    have hb13 : Below w13.heap.size w13 w14 := Below.trans (Below.refl _ _).drew hb
    clear z0 z1 z2 z3 z4
    obtain ⟨z0, z1, z2, z3, z4, _⟩ := hcell7 w14 hb13
    clear hcell7
    replace Cx := Aside0.mk (Kd.C_below Cx.out hb13)
    replace Cs := Aside0.mk (Kd.C_below Cs.out hb13)
    replace HB := Aside0.mk (below_step HB.out hb13)
    clear hb hb13 HBd
    go_wp2_with fail
    refine (demurralref18_Send.calls A0 c0 x x2.f0 x2.f1 x2.f2 x2.f3 x2.f4 s _ Cx.out hx0 hS).mono ?_; rintro e_ w15 ⟨v, rfl, ho, hb⟩; obtain ⟨Ar, cr, rfl, hcr, h_⟩ := Kd.R_reads ho; have Cr := Aside0.mk h_; clear ho h_; replace Cs := Aside0.mk (Kd.C_below Cs.out hb); replace HB := Aside0.mk (below_step HB.out hb); clear hb z0 z1 z2 z3 z4
    go_wp2_with fail
    refine (demurralref18_Same.calls 42 As cs s Ar cr s true _ Cs.out hcs Cr.out hcr hSS).mono ?_; rintro e_ w16 ⟨rfl, hd⟩; have hb := hd.below; clear hd
    go_wp2
    go_ret
    exact ⟨rfl, below_step HB.out hb⟩
set_option maxHeartbeats 4000000 in
set_option maxRecDepth 100000 in
theorem tells_some (A0 : Option Addr) (c0 : Nat) (l0 : List S27) (A1 : Option Addr) (c1 : Nat) (l1 : List S27) (x2 : S27) (a3 a4 : Int) (W : World)
    (hr0 : Kd.C k27 W A0 l0.length l0) (hc0 : l0.length ≤ c0) (hr1 : Kd.C k27 W A1 l1.length l1) (hc1 : l1.length ≤ c1)
    (x y s rest F K : List S27) (e q0 q1 : Int) (q2 : ByteArray) (q3 q4 f : Int) (b : Bool) (hx : l0.take 40 = x) (hy : l1.take 40 = y)
    (hsn : Hid (mailbox_Send.f x x2.f0 x2.f1 x2.f2 x2.f3 x2.f4 = some (s, e))) (htk : Hid (mailbox_Take.f x a3 = some (q0, q1, q2, q3, q4, rest, f))) (hof : Hid (demurralref18_Of.f 41 x a3 = some F))
    (hlk : Hid (mailbox_Like.f 41 x y = some b)) (hsm : Hid (demurralref18_Same.f 41 x y = some b)) (hlx : Hid (mailbox_Like.f 42 x x = some true)) (hcn : Hid (mailbox_Count.f x a3 = some (F.length : Int)))
    (hlt : Hid (mailbox_Later.f x a4 = some K)) (hrl : Hid (demurralref18_Later.f 41 x a4 = some K)) (hkk : Hid (demurralref18_Same.f 42 K K = some true)) (hal : Hid (demurrallaw18_alive.f = some true)) (hnone : Hid (0 < F.length ∧ f = 0 ∧ rd_T27 F 0 = ⟨q0, q1, q2, q3, q4⟩ ∧ demurralref18_Rest.f 41 x a3 = some rest ∧ demurralref18_Same.f 42 rest rest = some true))
    (hsend : Hid ((x2.f0 = x2.f1 ∧ e = 1 ∧ s = []) ∨ (∃ G, x2.f0 ≠ x2.f1 ∧ demurralref18_Of.f 41 x x2.f1 = some G ∧ 16 ≤ G.length ∧ e = 6 ∧ s = []) ∨ (∃ G, x2.f0 ≠ x2.f1 ∧ demurralref18_Of.f 41 x x2.f1 = some G ∧ G.length < 16 ∧ e = 0 ∧ demurralref18_Send.f x x2.f0 x2.f1 x2.f2 x2.f3 x2.f4 = some s ∧ demurralref18_Same.f 42 s s = some true))) :
    Calls Try.prog 5 #[.slice A0 l0.length c0, .slice A1 l1.length c1, .agg #[.int .u64 x2.f0, .int .u64 x2.f1, .string x2.f2, .int .i64 x2.f3, .int .u64 x2.f4], .int .u64 a3, .int .u64 a4] W fun e w' => e = .returned (.bool true) ∧ Below W.heap.size W w' := by
  have hx0 : x.length ≤ c0 := by rw [← hx, List.length_take]; omega
  have hy0 : y.length ≤ c1 := by rw [← hy, List.length_take]; omega
  have hfew0 : Hid (∀ w, Calls Try.prog 6 #[.slice A0 l0.length c0] w fun e w' => e = .returned (.slice A0 x.length c0) ∧ w' = w) := Lib.hid fun w => by rw [← hx]; exact few_calls A0 c0 l0 w hc0
  have hfew1 : Hid (∀ w, Calls Try.prog 6 #[.slice A1 l1.length c1] w fun e w' => e = .returned (.slice A1 y.length c1) ∧ w' = w) := Lib.hid fun w => by rw [← hy]; exact few_calls A1 c1 l1 w hc1
  have hcx : Kd.C k27 W A0 x.length x := by
    rw [← hx]
    rcases Nat.le_total l0.length 40 with h | h
    · rw [List.take_of_length_le h]; exact hr0
    · exact Kd.C_take hr0 h
  have hcy : Kd.C k27 W A1 y.length y := by
    rw [← hy]
    rcases Nat.le_total l1.length 40 with h | h
    · rw [List.take_of_length_le h]; exact hr1
    · exact Kd.C_take hr1 h
  obtain ⟨w1, hw1⟩ : ∃ w1, W.alloc (.cells #[.int .u64 x2.f0, .int .u64 x2.f1, .string x2.f2, .int .i64 x2.f3, .int .u64 x2.f4] 27 (0, 0)) = w1 := ⟨_, rfl⟩
  have HB : Aside0 (Below W.heap.size W w1) := ⟨by rw [← hw1]; exact below_alloc (Below.refl _ _) _⟩
  have B7 : Aside0 (w1.heap[W.heap.size]? = some (.cells #[.int .u64 x2.f0, .int .u64 x2.f1, .string x2.f2, .int .i64 x2.f3, .int .u64 x2.f4] 27 (0, 0))) := ⟨by rw [← hw1]; exact heap_alloc_new _ _⟩
  have Cx := Aside0.mk (Kd.C_below hcx HB.out)
  have Cy := Aside0.mk (Kd.C_below hcy HB.out)
  have hbb : (b != b) = false := by cases b <;> rfl
  obtain ⟨z0, z1, z2, z3, z4, _⟩ := box_cells B7.out
  clear hcx hcy hr0 hr1
  go_enter Try.func5, Try.ntmps5
  go_wp2_with fail
  refine (hfew0.out _).mono ?_; rintro e wq ⟨rfl, rfl⟩
  go_wp2_with fail
  refine (hfew1.out _).mono ?_; rintro e wq ⟨rfl, rfl⟩
  go_wp2_with fail
  refine (mailbox_Send.calls A0 c0 x x2.f0 x2.f1 x2.f2 x2.f3 x2.f4 s e _ Cx.out hx0 hsn.out).mono ?_; rintro e_ w2 ⟨v, rfl, ho, hb⟩; obtain ⟨As, cs, rfl, hcs, h_⟩ := Kd.R_reads ho; have Cs := Aside0.mk h_; clear ho h_; replace Cx := Aside0.mk (Kd.C_below Cx.out hb); replace Cy := Aside0.mk (Kd.C_below Cy.out hb); replace B7 := Aside0.mk ((hb.block _ (Array.getElem?_eq_some_iff.1 B7.out).1).trans B7.out); replace HB := Aside0.mk (below_step HB.out hb); clear hb; clear z0 z1 z2 z3 z4
  go_wp2_with fail
  refine (mailbox_Take.calls A0 c0 x a3 q0 q1 q2 q3 q4 rest f _ Cx.out hx0 htk.out).mono ?_; rintro e_ w3 ⟨v, rfl, ho, hb⟩; obtain ⟨At, ct, rfl, hct, h_⟩ := Kd.R_reads ho; have Ct := Aside0.mk h_; clear ho h_; replace Cx := Aside0.mk (Kd.C_below Cx.out hb); replace Cy := Aside0.mk (Kd.C_below Cy.out hb); replace Cs := Aside0.mk (Kd.C_below Cs.out hb); replace B7 := Aside0.mk ((hb.block _ (Array.getElem?_eq_some_iff.1 B7.out).1).trans B7.out); replace HB := Aside0.mk (below_step HB.out hb); clear hb; obtain ⟨w4, hw4⟩ : ∃ w4, w3.alloc (.cells #[.int .u64 q0, .int .u64 q1, .string q2, .int .i64 q3, .int .u64 q4] 27 (0, 0)) = w4 := ⟨_, rfl⟩; have B13 := Aside0.mk (show w4.heap[w3.heap.size]? = some (.cells #[.int .u64 q0, .int .u64 q1, .string q2, .int .i64 q3, .int .u64 q4] 27 (0, 0)) by rw [← hw4]; exact heap_alloc_new _ _); have hb : Below w3.heap.size w3 w4 := (by rw [← hw4]; exact below_alloc (Below.refl _ _) _); replace Cx := Aside0.mk (Kd.C_below Cx.out hb); replace Cy := Aside0.mk (Kd.C_below Cy.out hb); replace Cs := Aside0.mk (Kd.C_below Cs.out hb); replace Ct := Aside0.mk (Kd.C_below Ct.out hb); replace B7 := Aside0.mk ((hb.block _ (Array.getElem?_eq_some_iff.1 B7.out).1).trans B7.out); replace HB := Aside0.mk (below_step HB.out hb); clear hb
  go_wp2_with fail
  refine (demurralref18_Of.calls 41 A0 c0 x a3 F _ Cx.out hx0 hof.out).mono ?_; rintro e_ w5 ⟨v, rfl, ho, hb⟩; obtain ⟨Af, cf, rfl, hcf, h_⟩ := Kd.R_reads ho; have Cf := Aside0.mk h_; clear ho h_; replace Cx := Aside0.mk (Kd.C_below Cx.out hb); replace Cy := Aside0.mk (Kd.C_below Cy.out hb); replace Cs := Aside0.mk (Kd.C_below Cs.out hb); replace Ct := Aside0.mk (Kd.C_below Ct.out hb); replace B7 := Aside0.mk ((hb.block _ (Array.getElem?_eq_some_iff.1 B7.out).1).trans B7.out); replace B13 := Aside0.mk ((hb.block _ (Array.getElem?_eq_some_iff.1 B13.out).1).trans B13.out); replace HB := Aside0.mk (below_step HB.out hb); clear hb
  go_wp2_with fail
  refine (mailbox_Like.calls 41 A0 c0 x A1 c1 y b _ Cx.out hx0 Cy.out hy0 hlk.out).mono ?_; rintro e_ w6 ⟨rfl, hd⟩; have hb := hd.below; clear hd; replace Cx := Aside0.mk (Kd.C_below Cx.out hb); replace Cy := Aside0.mk (Kd.C_below Cy.out hb); replace Cs := Aside0.mk (Kd.C_below Cs.out hb); replace Ct := Aside0.mk (Kd.C_below Ct.out hb); replace Cf := Aside0.mk (Kd.C_below Cf.out hb); replace B7 := Aside0.mk ((hb.block _ (Array.getElem?_eq_some_iff.1 B7.out).1).trans B7.out); replace B13 := Aside0.mk ((hb.block _ (Array.getElem?_eq_some_iff.1 B13.out).1).trans B13.out); replace HB := Aside0.mk (below_step HB.out hb); clear hb
  go_wp2_with fail
  refine (demurralref18_Same.calls 41 A0 c0 x A1 c1 y b _ Cx.out hx0 Cy.out hy0 hsm.out).mono ?_; rintro e_ w7 ⟨rfl, hd⟩; have hb := hd.below; clear hd; replace Cx := Aside0.mk (Kd.C_below Cx.out hb); replace Cy := Aside0.mk (Kd.C_below Cy.out hb); replace Cs := Aside0.mk (Kd.C_below Cs.out hb); replace Ct := Aside0.mk (Kd.C_below Ct.out hb); replace Cf := Aside0.mk (Kd.C_below Cf.out hb); replace B7 := Aside0.mk ((hb.block _ (Array.getElem?_eq_some_iff.1 B7.out).1).trans B7.out); replace B13 := Aside0.mk ((hb.block _ (Array.getElem?_eq_some_iff.1 B13.out).1).trans B13.out); replace HB := Aside0.mk (below_step HB.out hb); clear hb
  go_wp2_with fail
  refine (mailbox_Like.calls 42 A0 c0 x A0 c0 x true _ Cx.out hx0 Cx.out hx0 hlx.out).mono ?_; rintro e_ w8 ⟨rfl, hd⟩; have hb := hd.below; clear hd; replace Cx := Aside0.mk (Kd.C_below Cx.out hb); replace Cy := Aside0.mk (Kd.C_below Cy.out hb); replace Cs := Aside0.mk (Kd.C_below Cs.out hb); replace Ct := Aside0.mk (Kd.C_below Ct.out hb); replace Cf := Aside0.mk (Kd.C_below Cf.out hb); replace B7 := Aside0.mk ((hb.block _ (Array.getElem?_eq_some_iff.1 B7.out).1).trans B7.out); replace B13 := Aside0.mk ((hb.block _ (Array.getElem?_eq_some_iff.1 B13.out).1).trans B13.out); replace HB := Aside0.mk (below_step HB.out hb); clear hb
  go_wp2_with fail
  refine (mailbox_Count.calls A0 c0 x a3 F.length _ Cx.out hx0 hcn.out).mono ?_; rintro e_ w9 ⟨rfl, hb⟩; replace Cx := Aside0.mk (Kd.C_below Cx.out hb); replace Cy := Aside0.mk (Kd.C_below Cy.out hb); replace Cs := Aside0.mk (Kd.C_below Cs.out hb); replace Ct := Aside0.mk (Kd.C_below Ct.out hb); replace Cf := Aside0.mk (Kd.C_below Cf.out hb); replace B7 := Aside0.mk ((hb.block _ (Array.getElem?_eq_some_iff.1 B7.out).1).trans B7.out); replace B13 := Aside0.mk ((hb.block _ (Array.getElem?_eq_some_iff.1 B13.out).1).trans B13.out); replace HB := Aside0.mk (below_step HB.out hb); clear hb
  go_wp2_with fail
  refine (mailbox_Later.calls A0 c0 x a4 K _ Cx.out hx0 hlt.out).mono ?_; rintro e_ w10 ⟨v, rfl, ho, hb⟩; obtain ⟨Ak, ck, rfl, hck, h_⟩ := Kd.R_reads ho; have Ck := Aside0.mk h_; clear ho h_; replace Cx := Aside0.mk (Kd.C_below Cx.out hb); replace Cy := Aside0.mk (Kd.C_below Cy.out hb); replace Cs := Aside0.mk (Kd.C_below Cs.out hb); replace Ct := Aside0.mk (Kd.C_below Ct.out hb); replace Cf := Aside0.mk (Kd.C_below Cf.out hb); replace B7 := Aside0.mk ((hb.block _ (Array.getElem?_eq_some_iff.1 B7.out).1).trans B7.out); replace B13 := Aside0.mk ((hb.block _ (Array.getElem?_eq_some_iff.1 B13.out).1).trans B13.out); replace HB := Aside0.mk (below_step HB.out hb); clear hb
  go_wp2_with fail
  refine (demurralref18_Later.calls 41 A0 c0 x a4 K _ Cx.out hx0 hrl.out).mono ?_; rintro e_ w11 ⟨v, rfl, ho, hb⟩; obtain ⟨Al, cl, rfl, hcl, h_⟩ := Kd.R_reads ho; have Cl := Aside0.mk h_; clear ho h_; replace Cx := Aside0.mk (Kd.C_below Cx.out hb); replace Cy := Aside0.mk (Kd.C_below Cy.out hb); replace Cs := Aside0.mk (Kd.C_below Cs.out hb); replace Ct := Aside0.mk (Kd.C_below Ct.out hb); replace Cf := Aside0.mk (Kd.C_below Cf.out hb); replace Ck := Aside0.mk (Kd.C_below Ck.out hb); replace B7 := Aside0.mk ((hb.block _ (Array.getElem?_eq_some_iff.1 B7.out).1).trans B7.out); replace B13 := Aside0.mk ((hb.block _ (Array.getElem?_eq_some_iff.1 B13.out).1).trans B13.out); replace HB := Aside0.mk (below_step HB.out hb); clear hb
  go_wp2_with fail
  refine (demurralref18_Same.calls 42 Ak ck K Al cl K true _ Ck.out hck Cl.out hcl hkk.out).mono ?_; rintro e_ w12 ⟨rfl, hd⟩; have hb := hd.below; clear hd; replace Cx := Aside0.mk (Kd.C_below Cx.out hb); replace Cy := Aside0.mk (Kd.C_below Cy.out hb); replace Cs := Aside0.mk (Kd.C_below Cs.out hb); replace Ct := Aside0.mk (Kd.C_below Ct.out hb); replace Cf := Aside0.mk (Kd.C_below Cf.out hb); replace B7 := Aside0.mk ((hb.block _ (Array.getElem?_eq_some_iff.1 B7.out).1).trans B7.out); replace B13 := Aside0.mk ((hb.block _ (Array.getElem?_eq_some_iff.1 B13.out).1).trans B13.out); replace HB := Aside0.mk (below_step HB.out hb); clear hb
  go_wp2_with fail
  refine (demurrallaw18_alive.calls true _ hal.out).mono ?_; rintro e_ w13 ⟨rfl, hb⟩; replace Cx := Aside0.mk (Kd.C_below Cx.out hb); replace Cy := Aside0.mk (Kd.C_below Cy.out hb); replace Cs := Aside0.mk (Kd.C_below Cs.out hb); replace Ct := Aside0.mk (Kd.C_below Ct.out hb); replace Cf := Aside0.mk (Kd.C_below Cf.out hb); replace B7 := Aside0.mk ((hb.block _ (Array.getElem?_eq_some_iff.1 B7.out).1).trans B7.out); replace B13 := Aside0.mk ((hb.block _ (Array.getElem?_eq_some_iff.1 B13.out).1).trans B13.out); replace HB := Aside0.mk (below_step HB.out hb); clear hb
  go_wp2_with fail
  obtain ⟨hF0, rfl, hFq, hrs, hrr⟩ := hnone.out
  have ht17 : ((F.length : Int) == 0) = false := beq_eq_false_iff_ne.2 (by omega)
  obtain ⟨ad, eA, _⟩ := at_T27 Cf.out 0 (by omega) (by omega)
  subst eA
  have hF1 : (0 : Int) < (F.length : Int) := by omega
  have hq : Hid (∀ w, Below w13.heap.size w13 w → (w.cell? ⟨w3.heap.size, 0, none⟩ = some (.int .u64 q0) ∧ w.cell? ⟨w3.heap.size, 1, none⟩ = some (.int .u64 q1) ∧ w.cell? ⟨w3.heap.size, 2, none⟩ = some (.string q2) ∧ w.cell? ⟨w3.heap.size, 3, none⟩ = some (.int .i64 q3) ∧ w.cell? ⟨w3.heap.size, 4, none⟩ = some (.int .u64 q4)) ∧
      (w.cell? ad = some (.int .u64 q0) ∧ w.cell? ⟨ad.block, ad.off + 1, none⟩ = some (.int .u64 q1) ∧ w.cell? ⟨ad.block, ad.off + 2, none⟩ = some (.string q2) ∧ w.cell? ⟨ad.block, ad.off + 3, none⟩ = some (.int .i64 q3) ∧ w.cell? ⟨ad.block, ad.off + 4, none⟩ = some (.int .u64 q4))) := Lib.hid fun w hw => by
    obtain ⟨z0, z1, z2, z3, z4, _⟩ := box_cells ((hw.block _ (Array.getElem?_eq_some_iff.1 B13.out).1).trans B13.out)
    obtain ⟨ad', e', r0, r1, r2, r3, r4⟩ := at_T27 (Kd.C_below Cf.out hw) 0 (by omega) (by omega)
    cases e'
    rw [hFq] at r0 r1 r2 r3 r4
    have ea : ad.add ((0 : Int).toNat * 5) = ad := by simp [Addr.add]
    rw [ea] at r0 r1 r2 r3 r4
    exact ⟨⟨z0, z1, z2, z3, z4⟩, r0, r1, r2, r3, r4⟩
  replace hrs := Lib.hid hrs
  replace hrr := Lib.hid hrr
  clear hFq
  refine start_ (n := 38) (S := fun w' => w'.cell? ⟨w3.heap.size, 0, none⟩ = some (.int .u64 q0) ∧ w'.cell? ⟨w3.heap.size, 1, none⟩ = some (.int .u64 q1) ∧ w'.cell? ⟨w3.heap.size, 2, none⟩ = some (.string q2) ∧ w'.cell? ⟨w3.heap.size, 3, none⟩ = some (.int .i64 q3) ∧ w'.cell? ⟨w3.heap.size, 4, none⟩ = some (.int .u64 q4) ∧ w'.cell? ad = some (.int .u64 q0) ∧ w'.cell? ⟨ad.block, ad.off + 1, none⟩ = some (.int .u64 q1) ∧ w'.cell? ⟨ad.block, ad.off + 2, none⟩ = some (.string q2) ∧ w'.cell? ⟨ad.block, ad.off + 3, none⟩ = some (.int .i64 q3) ∧ w'.cell? ⟨ad.block, ad.off + 4, none⟩ = some (.int .u64 q4)) (ds := []) #[false, false, false, false, false, false, false, false, false, false, false, false, false, false, false, false, false, false, false, false, false, false, false, false, false, false, false, false, false, false, false, false, false, false, false, false, false, false] (by kernel_rfl) rfl rfl ⟨(hq.out _ (Below.refl _ _).drew).1.1, (hq.out _ (Below.refl _ _).drew).1.2.1, (hq.out _ (Below.refl _ _).drew).1.2.2.1, (hq.out _ (Below.refl _ _).drew).1.2.2.2.1, (hq.out _ (Below.refl _ _).drew).1.2.2.2.2, (hq.out _ (Below.refl _ _).drew).2.1, (hq.out _ (Below.refl _ _).drew).2.2.1, (hq.out _ (Below.refl _ _).drew).2.2.2.1, (hq.out _ (Below.refl _ _).drew).2.2.2.2.1, (hq.out _ (Below.refl _ _).drew).2.2.2.2.2⟩ (fun hHeld => ?_)
  refine pure_ (i := 0) (N := some 76) (v := ?_) (a' := ?_) #[true, false, false, false, false, false, false, false, false, false, false, false, false, false, false, false, false, false, false, false, false, false, false, false, false, false, false, false, false, false, false, false, false, false, false, false, false, false] rfl rfl (by kernel_rfl) (fun _ _ _ h => h) (Or.inl ⟨by rfl, ?_⟩) ?_ ?_
  rotate_left
  · intro w'
    go_simp
    with_reducible rfl
  rotate_left
  · simp only [Act.put, List.setIfInBounds_toArray, List.set_cons_zero, List.set_cons_succ, i64_w, i32_w]
    rfl
  refine pure_ (i := 1) (N := some 77) (v := ?_) (a' := ?_) #[true, true, false, false, false, false, false, false, false, false, false, false, false, false, false, false, false, false, false, false, false, false, false, false, false, false, false, false, false, false, false, false, false, false, false, false, false, false] rfl rfl (by kernel_rfl) (fun _ _ _ h => h) (Or.inl ⟨by rfl, ?_⟩) ?_ ?_
  rotate_left
  · intro w'
    go_simp
    with_reducible rfl
  rotate_left
  · simp only [Act.put, List.setIfInBounds_toArray, List.set_cons_zero, List.set_cons_succ, i64_w, i32_w]
    rfl
  refine pure_ (i := 2) (N := some 78) (v := undef) (a' := ?_) #[true, true, true, false, false, false, false, false, false, false, false, false, false, false, false, false, false, false, false, false, false, false, false, false, false, false, false, false, false, false, false, false, false, false, false, false, false, false] rfl rfl (by kernel_rfl) (fun _ _ _ h => h) (Or.inr ⟨by rfl, rfl⟩) ?_ ?_
  rotate_left
  · simp only [Act.put, List.setIfInBounds_toArray, List.set_cons_zero, List.set_cons_succ, i64_w, i32_w]
    rfl
  refine pure_ (i := 3) (N := some 79) (v := undef) (a' := ?_) #[true, true, true, true, false, false, false, false, false, false, false, false, false, false, false, false, false, false, false, false, false, false, false, false, false, false, false, false, false, false, false, false, false, false, false, false, false, false] rfl rfl (by kernel_rfl) (fun _ _ _ h => h) (Or.inr ⟨by rfl, rfl⟩) ?_ ?_
  rotate_left
  · simp only [Act.put, List.setIfInBounds_toArray, List.set_cons_zero, List.set_cons_succ, i64_w, i32_w]
    rfl
  refine pure_ (i := 4) (N := some 80) (v := undef) (a' := ?_) #[true, true, true, true, true, false, false, false, false, false, false, false, false, false, false, false, false, false, false, false, false, false, false, false, false, false, false, false, false, false, false, false, false, false, false, false, false, false] rfl rfl (by kernel_rfl) (fun _ _ _ h => h) (Or.inr ⟨by rfl, rfl⟩) ?_ ?_
  rotate_left
  · simp only [Act.put, List.setIfInBounds_toArray, List.set_cons_zero, List.set_cons_succ, i64_w, i32_w]
    rfl
  refine pure_ (i := 5) (N := some 81) (v := undef) (a' := ?_) #[true, true, true, true, true, true, false, false, false, false, false, false, false, false, false, false, false, false, false, false, false, false, false, false, false, false, false, false, false, false, false, false, false, false, false, false, false, false] rfl rfl (by kernel_rfl) (fun _ _ _ h => h) (Or.inr ⟨by rfl, rfl⟩) ?_ ?_
  rotate_left
  · simp only [Act.put, List.setIfInBounds_toArray, List.set_cons_zero, List.set_cons_succ, i64_w, i32_w]
    rfl
  refine pure_ (i := 6) (N := some 82) (v := undef) (a' := ?_) #[true, true, true, true, true, true, true, false, false, false, false, false, false, false, false, false, false, false, false, false, false, false, false, false, false, false, false, false, false, false, false, false, false, false, false, false, false, false] rfl rfl (by kernel_rfl) (fun _ _ _ h => h) (Or.inr ⟨by rfl, rfl⟩) ?_ ?_
  rotate_left
  · simp only [Act.put, List.setIfInBounds_toArray, List.set_cons_zero, List.set_cons_succ, i64_w, i32_w]
    rfl
  refine pure_ (i := 7) (N := some 83) (v := undef) (a' := ?_) #[true, true, true, true, true, true, true, true, false, false, false, false, false, false, false, false, false, false, false, false, false, false, false, false, false, false, false, false, false, false, false, false, false, false, false, false, false, false] rfl rfl (by kernel_rfl) (fun _ _ _ h => h) (Or.inr ⟨by rfl, rfl⟩) ?_ ?_
  rotate_left
  · simp only [Act.put, List.setIfInBounds_toArray, List.set_cons_zero, List.set_cons_succ, i64_w, i32_w]
    rfl
  refine pure_ (i := 8) (N := some 84) (v := undef) (a' := ?_) #[true, true, true, true, true, true, true, true, true, false, false, false, false, false, false, false, false, false, false, false, false, false, false, false, false, false, false, false, false, false, false, false, false, false, false, false, false, false] rfl rfl (by kernel_rfl) (fun _ _ _ h => h) (Or.inr ⟨by rfl, rfl⟩) ?_ ?_
  rotate_left
  · simp only [Act.put, List.setIfInBounds_toArray, List.set_cons_zero, List.set_cons_succ, i64_w, i32_w]
    rfl
  refine pure_ (i := 9) (N := some 85) (v := undef) (a' := ?_) #[true, true, true, true, true, true, true, true, true, true, false, false, false, false, false, false, false, false, false, false, false, false, false, false, false, false, false, false, false, false, false, false, false, false, false, false, false, false] rfl rfl (by kernel_rfl) (fun _ _ _ h => h) (Or.inr ⟨by rfl, rfl⟩) ?_ ?_
  rotate_left
  · simp only [Act.put, List.setIfInBounds_toArray, List.set_cons_zero, List.set_cons_succ, i64_w, i32_w]
    rfl
  refine pure_ (i := 10) (N := some 86) (v := undef) (a' := ?_) #[true, true, true, true, true, true, true, true, true, true, true, false, false, false, false, false, false, false, false, false, false, false, false, false, false, false, false, false, false, false, false, false, false, false, false, false, false, false] rfl rfl (by kernel_rfl) (fun _ _ _ h => h) (Or.inr ⟨by rfl, rfl⟩) ?_ ?_
  rotate_left
  · simp only [Act.put, List.setIfInBounds_toArray, List.set_cons_zero, List.set_cons_succ, i64_w, i32_w]
    rfl
  refine pure_ (i := 11) (N := some 87) (v := undef) (a' := ?_) #[true, true, true, true, true, true, true, true, true, true, true, true, false, false, false, false, false, false, false, false, false, false, false, false, false, false, false, false, false, false, false, false, false, false, false, false, false, false] rfl rfl (by kernel_rfl) (fun _ _ _ h => h) (Or.inr ⟨by rfl, rfl⟩) ?_ ?_
  rotate_left
  · simp only [Act.put, List.setIfInBounds_toArray, List.set_cons_zero, List.set_cons_succ, i64_w, i32_w]
    rfl
  refine pure_ (i := 12) (N := some 88) (v := undef) (a' := ?_) #[true, true, true, true, true, true, true, true, true, true, true, true, true, false, false, false, false, false, false, false, false, false, false, false, false, false, false, false, false, false, false, false, false, false, false, false, false, false] rfl rfl (by kernel_rfl) (fun _ _ _ h => h) (Or.inr ⟨by rfl, rfl⟩) ?_ ?_
  rotate_left
  · simp only [Act.put, List.setIfInBounds_toArray, List.set_cons_zero, List.set_cons_succ, i64_w, i32_w]
    rfl
  refine pure_ (i := 13) (N := some 89) (v := undef) (a' := ?_) #[true, true, true, true, true, true, true, true, true, true, true, true, true, true, false, false, false, false, false, false, false, false, false, false, false, false, false, false, false, false, false, false, false, false, false, false, false, false] rfl rfl (by kernel_rfl) (fun _ _ _ h => h) (Or.inr ⟨by rfl, rfl⟩) ?_ ?_
  rotate_left
  · simp only [Act.put, List.setIfInBounds_toArray, List.set_cons_zero, List.set_cons_succ, i64_w, i32_w]
    rfl
  refine pure_ (i := 14) (N := some 90) (v := ?_) (a' := ?_) #[true, true, true, true, true, true, true, true, true, true, true, true, true, true, true, false, false, false, false, false, false, false, false, false, false, false, false, false, false, false, false, false, false, false, false, false, false, false] rfl rfl (by kernel_rfl) (fun _ _ _ h => h) (Or.inl ⟨by rfl, ?_⟩) ?_ ?_
  rotate_left
  · intro w'
    go_simp
    with_reducible rfl
  rotate_left
  · simp only [Act.put, List.setIfInBounds_toArray, List.set_cons_zero, List.set_cons_succ, i64_w, i32_w]
    rfl
  refine pure_ (i := 15) (N := some 91) (v := ?_) (a' := ?_) #[true, true, true, true, true, true, true, true, true, true, true, true, true, true, true, true, false, false, false, false, false, false, false, false, false, false, false, false, false, false, false, false, false, false, false, false, false, false] rfl rfl (by kernel_rfl) (fun _ _ _ h => h) (Or.inl ⟨by rfl, ?_⟩) ?_ ?_
  rotate_left
  · intro w'
    go_simp
    with_reducible rfl
  rotate_left
  · simp only [Act.put, List.setIfInBounds_toArray, List.set_cons_zero, List.set_cons_succ, i64_w, i32_w]
    rfl
  refine pure_ (i := 16) (N := some 92) (v := ?_) (a' := ?_) #[true, true, true, true, true, true, true, true, true, true, true, true, true, true, true, true, true, false, false, false, false, false, false, false, false, false, false, false, false, false, false, false, false, false, false, false, false, false] rfl rfl (by kernel_rfl) (fun _ _ _ h => h) (Or.inl ⟨by rfl, ?_⟩) ?_ ?_
  rotate_left
  · intro w'
    go_simp
    with_reducible rfl
  rotate_left
  · simp only [Act.put, List.setIfInBounds_toArray, List.set_cons_zero, List.set_cons_succ, i64_w, i32_w]
    rfl
  refine pure_ (i := 17) (N := some 93) (v := ?_) (a' := ?_) #[true, true, true, true, true, true, true, true, true, true, true, true, true, true, true, true, true, true, false, false, false, false, false, false, false, false, false, false, false, false, false, false, false, false, false, false, false, false] rfl rfl (by kernel_rfl) (fun _ _ _ h => h) (Or.inl ⟨by rfl, ?_⟩) ?_ ?_
  rotate_left
  · intro w'
    go_simp
    with_reducible rfl
  rotate_left
  · simp only [Act.put, List.setIfInBounds_toArray, List.set_cons_zero, List.set_cons_succ, i64_w, i32_w]
    rfl
  refine pure_ (i := 18) (N := some 94) (v := ?_) (a' := ?_) #[true, true, true, true, true, true, true, true, true, true, true, true, true, true, true, true, true, true, true, false, false, false, false, false, false, false, false, false, false, false, false, false, false, false, false, false, false, false] rfl rfl (by kernel_rfl) (fun _ _ _ h => h) (Or.inl ⟨by rfl, ?_⟩) ?_ ?_
  rotate_left
  · intro w'
    go_simp
    with_reducible rfl
  rotate_left
  · simp only [Act.put, List.setIfInBounds_toArray, List.set_cons_zero, List.set_cons_succ, i64_w, i32_w]
    rfl
  refine pure_ (i := 19) (N := some 95) (v := ?_) (a' := ?_) #[true, true, true, true, true, true, true, true, true, true, true, true, true, true, true, true, true, true, true, true, false, false, false, false, false, false, false, false, false, false, false, false, false, false, false, false, false, false] rfl rfl (by kernel_rfl) (fun _ _ _ h => h) (Or.inl ⟨by rfl, ?_⟩) ?_ ?_
  rotate_left
  · intro w'
    go_simp
    with_reducible rfl
  rotate_left
  · simp only [Act.put, List.setIfInBounds_toArray, List.set_cons_zero, List.set_cons_succ, i64_w, i32_w]
    rfl
  refine pure_ (i := 20) (N := some 96) (v := ?_) (a' := ?_) #[true, true, true, true, true, true, true, true, true, true, true, true, true, true, true, true, true, true, true, true, true, false, false, false, false, false, false, false, false, false, false, false, false, false, false, false, false, false] rfl rfl (by kernel_rfl) (fun _ _ _ h => h) (Or.inl ⟨by rfl, ?_⟩) ?_ ?_
  rotate_left
  · intro w'
    go_simp
    with_reducible rfl
  rotate_left
  · simp only [Act.put, List.setIfInBounds_toArray, List.set_cons_zero, List.set_cons_succ, i64_w, i32_w]
    rfl
  refine pure_ (i := 21) (N := some 97) (v := ?_) (a' := ?_) #[true, true, true, true, true, true, true, true, true, true, true, true, true, true, true, true, true, true, true, true, true, true, false, false, false, false, false, false, false, false, false, false, false, false, false, false, false, false] rfl rfl (by kernel_rfl) (fun _ _ _ h => h) (Or.inl ⟨by rfl, ?_⟩) ?_ ?_
  rotate_left
  · intro w'
    go_simp
    with_reducible rfl
  rotate_left
  · simp only [Act.put, List.setIfInBounds_toArray, List.set_cons_zero, List.set_cons_succ, i64_w, i32_w]
    rfl
  refine pure_ (i := 23) (N := some 99) (v := ?_) (a' := ?_) #[true, true, true, true, true, true, true, true, true, true, true, true, true, true, true, true, true, true, true, true, true, true, false, true, false, false, false, false, false, false, false, false, false, false, false, false, false, false] rfl rfl (by kernel_rfl) (fun _ _ _ h => h) (Or.inl ⟨by rfl, ?_⟩) ?_ ?_
  rotate_left
  · intro w'
    go_simp
    with_reducible rfl
  rotate_left
  · simp only [Act.put, List.setIfInBounds_toArray, List.set_cons_zero, List.set_cons_succ, i64_w, i32_w]
    rfl
  refine pure_ (i := 24) (N := some 100) (v := ?_) (a' := ?_) #[true, true, true, true, true, true, true, true, true, true, true, true, true, true, true, true, true, true, true, true, true, true, false, true, true, false, false, false, false, false, false, false, false, false, false, false, false, false] rfl rfl (by kernel_rfl) (fun _ _ _ h => h) (Or.inl ⟨by rfl, ?_⟩) ?_ ?_
  rotate_left
  · intro w'
    go_simp
    with_reducible rfl
  rotate_left
  · simp only [Act.put, List.setIfInBounds_toArray, List.set_cons_zero, List.set_cons_succ, i64_w, i32_w]
    rfl
  refine take_ (i := 22) (N := some 98) (v := ?_) (a' := ?_) #[true, true, true, true, true, true, true, true, true, true, true, true, true, true, true, true, true, true, true, true, true, true, true, true, true, false, false, false, false, false, false, false, false, false, false, false, false, false] rfl rfl (by kernel_rfl) (fun _ _ _ h => h) (Or.inl ⟨by rfl, ?_⟩) hHeld ?_ ?_
  rotate_left
  · rintro w' ⟨s0, s1, s2, s3, s4, s5, s6, s7, s8, s9⟩
    go_simp
    with_reducible rfl
  rotate_left
  · simp only [Act.put, List.setIfInBounds_toArray, List.set_cons_zero, List.set_cons_succ, i64_w, i32_w]
    rfl
  refine take_ (i := 25) (N := some 101) (v := ?_) (a' := ?_) #[true, true, true, true, true, true, true, true, true, true, true, true, true, true, true, true, true, true, true, true, true, true, true, true, true, true, false, false, false, false, false, false, false, false, false, false, false, false] rfl rfl (by kernel_rfl) (fun _ _ _ h => h) (Or.inl ⟨by rfl, ?_⟩) hHeld ?_ ?_
  rotate_left
  · rintro w' ⟨s0, s1, s2, s3, s4, s5, s6, s7, s8, s9⟩
    go_simp
    with_reducible rfl
  rotate_left
  · simp only [Act.put, List.setIfInBounds_toArray, List.set_cons_zero, List.set_cons_succ, i64_w, i32_w]
    rfl
  refine pure_ (i := 26) (N := some 102) (v := ?_) (a' := ?_) #[true, true, true, true, true, true, true, true, true, true, true, true, true, true, true, true, true, true, true, true, true, true, true, true, true, true, true, false, false, false, false, false, false, false, false, false, false, false] rfl rfl (by kernel_rfl) (fun _ _ _ h => h) (Or.inl ⟨by rfl, ?_⟩) ?_ ?_
  rotate_left
  · intro w'
    go_simp
    with_reducible rfl
  rotate_left
  · simp only [Act.put, List.setIfInBounds_toArray, List.set_cons_zero, List.set_cons_succ, i64_w, i32_w]
    rfl
  refine pure_ (i := 27) (N := some 103) (v := ?_) (a' := ?_) #[true, true, true, true, true, true, true, true, true, true, true, true, true, true, true, true, true, true, true, true, true, true, true, true, true, true, true, true, false, false, false, false, false, false, false, false, false, false] rfl rfl (by kernel_rfl) (fun _ _ _ h => h) (Or.inl ⟨by rfl, ?_⟩) ?_ ?_
  rotate_left
  · intro w'
    go_simp
    with_reducible rfl
  rotate_left
  · simp only [Act.put, List.setIfInBounds_toArray, List.set_cons_zero, List.set_cons_succ, i64_w, i32_w]
    rfl
  refine pure_ (i := 28) (N := some 104) (v := ?_) (a' := ?_) #[true, true, true, true, true, true, true, true, true, true, true, true, true, true, true, true, true, true, true, true, true, true, true, true, true, true, true, true, true, false, false, false, false, false, false, false, false, false] rfl rfl (by kernel_rfl) (fun _ _ _ h => h) (Or.inl ⟨by rfl, ?_⟩) ?_ ?_
  rotate_left
  · intro w'
    go_simp
    with_reducible rfl
  rotate_left
  · simp only [Act.put, List.setIfInBounds_toArray, List.set_cons_zero, List.set_cons_succ, i64_w, i32_w]
    rfl
  refine pure_ (i := 29) (N := some 105) (v := ?_) (a' := ?_) #[true, true, true, true, true, true, true, true, true, true, true, true, true, true, true, true, true, true, true, true, true, true, true, true, true, true, true, true, true, true, false, false, false, false, false, false, false, false] rfl rfl (by kernel_rfl) (fun _ _ _ h => h) (Or.inl ⟨by rfl, ?_⟩) ?_ ?_
  rotate_left
  · intro w'
    go_simp
    with_reducible rfl
  rotate_left
  · simp only [Act.put, List.setIfInBounds_toArray, List.set_cons_zero, List.set_cons_succ, i64_w, i32_w]
    rfl
  refine pure_ (i := 30) (N := some 106) (v := ?_) (a' := ?_) #[true, true, true, true, true, true, true, true, true, true, true, true, true, true, true, true, true, true, true, true, true, true, true, true, true, true, true, true, true, true, true, false, false, false, false, false, false, false] rfl rfl (by kernel_rfl) (fun _ _ _ h => h) (Or.inl ⟨by rfl, ?_⟩) ?_ ?_
  rotate_left
  · intro w'
    go_simp
    with_reducible rfl
  rotate_left
  · simp only [Act.put, List.setIfInBounds_toArray, List.set_cons_zero, List.set_cons_succ, i64_w, i32_w]
    rfl
  refine pure_ (i := 31) (N := some 107) (v := ?_) (a' := ?_) #[true, true, true, true, true, true, true, true, true, true, true, true, true, true, true, true, true, true, true, true, true, true, true, true, true, true, true, true, true, true, true, true, false, false, false, false, false, false] rfl rfl (by kernel_rfl) (fun _ _ _ h => h) (Or.inl ⟨by rfl, ?_⟩) ?_ ?_
  rotate_left
  · intro w'
    go_simp
    with_reducible rfl
  rotate_left
  · simp only [Act.put, List.setIfInBounds_toArray, List.set_cons_zero, List.set_cons_succ, i64_w, i32_w]
    rfl
  refine one_ (i := 32) (N := some 108) #[true, true, true, true, true, true, true, true, true, true, true, true, true, true, true, true, true, true, true, true, true, true, true, true, true, true, true, true, true, true, true, true, true, false, false, false, false, false] rfl rfl (by kernel_rfl) (by decide) (fun K hK => ?_)
  refine goes_ Try.func16 (by kernel_rfl) rfl #[.slice A0 x.length c0, .int .u64 a3] (by rfl) rfl rfl (by simp only [List.map_toArray, List.map_cons, List.map_nil]; rfl) ?_
  with_reducible refine (demurralref18_Rest.calls 41 A0 c0 x a3 rest _ (Kd.C_drew Cx.out) hx0 hrs.out).mono ?_
  rintro e_ w14 ⟨v, rfl, ho, hb⟩
  refine ⟨_, rfl, ?_⟩
  obtain ⟨Ar, cr, rfl, hcr, h_⟩ := Kd.R_reads ho
  have Cr := Aside0.mk h_
  clear ho h_
  have HB14 := Aside0.mk (Below.trans (Below.refl w13.heap.size w13).drew hb)
  clear hb
  refine hK.out _ _ ⟨(hq.out _ HB14.out).1.1, (hq.out _ HB14.out).1.2.1, (hq.out _ HB14.out).1.2.2.1, (hq.out _ HB14.out).1.2.2.2.1, (hq.out _ HB14.out).1.2.2.2.2, (hq.out _ HB14.out).2.1, (hq.out _ HB14.out).2.2.1, (hq.out _ HB14.out).2.2.2.1, (hq.out _ HB14.out).2.2.2.2.1, (hq.out _ HB14.out).2.2.2.2.2⟩ (fun hHeld => ?_)
  clear hK K
  refine norm_ (a' := ?_) ?_ ?_
  rotate_left
  · show Act.put _ (some 108) _ = _
    simp only [Act.put, List.setIfInBounds_toArray, List.set_cons_zero, List.set_cons_succ, i64_w, i32_w]
    rfl
  refine one_ (i := 33) (N := some 109) #[true, true, true, true, true, true, true, true, true, true, true, true, true, true, true, true, true, true, true, true, true, true, true, true, true, true, true, true, true, true, true, true, true, true, false, false, false, false] rfl rfl (by kernel_rfl) (by decide) (fun K hK => ?_)
  refine goes_ Try.func10 (by kernel_rfl) rfl #[.slice At rest.length ct, .slice Ar rest.length cr] (by rfl) rfl rfl (by simp only [List.map_toArray, List.map_cons, List.map_nil]; rfl) ?_
  with_reducible refine (demurralref18_Same.calls 42 At ct rest Ar cr rest true _ (Kd.C_below Ct.out HB14.out) hct Cr.out hcr hrr.out).mono ?_
  rintro e_ w15 ⟨rfl, hd⟩
  refine ⟨_, rfl, ?_⟩
  have HB15 := Aside0.mk (Below.trans HB14.out (Below.mono hd.below HB14.out.size))
  clear hd
  refine hK.out _ _ ⟨(hq.out _ HB15.out).1.1, (hq.out _ HB15.out).1.2.1, (hq.out _ HB15.out).1.2.2.1, (hq.out _ HB15.out).1.2.2.2.1, (hq.out _ HB15.out).1.2.2.2.2, (hq.out _ HB15.out).2.1, (hq.out _ HB15.out).2.2.1, (hq.out _ HB15.out).2.2.2.1, (hq.out _ HB15.out).2.2.2.2.1, (hq.out _ HB15.out).2.2.2.2.2⟩ (fun hHeld => ?_)
  clear hK K
  refine norm_ (a' := ?_) ?_ ?_
  rotate_left
  · show Act.put _ (some 109) _ = _
    simp only [Act.put, List.setIfInBounds_toArray, List.set_cons_zero, List.set_cons_succ, i64_w, i32_w]
    rfl
  refine pure_ (i := 34) (N := some 110) (v := ?_) (a' := ?_) #[true, true, true, true, true, true, true, true, true, true, true, true, true, true, true, true, true, true, true, true, true, true, true, true, true, true, true, true, true, true, true, true, true, true, true, false, false, false] rfl rfl (by kernel_rfl) (fun _ _ _ h => h) (Or.inl ⟨by rfl, ?_⟩) ?_ ?_
  rotate_left
  · intro w'
    go_simp
    with_reducible rfl
  rotate_left
  · simp only [Act.put, List.setIfInBounds_toArray, List.set_cons_zero, List.set_cons_succ, i64_w, i32_w]
    rfl
  refine pure_ (i := 35) (N := some 111) (v := ?_) (a' := ?_) #[true, true, true, true, true, true, true, true, true, true, true, true, true, true, true, true, true, true, true, true, true, true, true, true, true, true, true, true, true, true, true, true, true, true, true, true, false, false] rfl rfl (by kernel_rfl) (fun _ _ _ h => h) (Or.inl ⟨by rfl, ?_⟩) ?_ ?_
  rotate_left
  · intro w'
    go_simp
    with_reducible rfl
  rotate_left
  · simp only [Act.put, List.setIfInBounds_toArray, List.set_cons_zero, List.set_cons_succ, i64_w, i32_w]
    rfl
  refine pure_ (i := 36) (N := some 112) (v := ?_) (a' := ?_) #[true, true, true, true, true, true, true, true, true, true, true, true, true, true, true, true, true, true, true, true, true, true, true, true, true, true, true, true, true, true, true, true, true, true, true, true, true, false] rfl rfl (by kernel_rfl) (fun _ _ _ h => h) (Or.inl ⟨by rfl, ?_⟩) ?_ ?_
  rotate_left
  · intro w'
    go_simp
    with_reducible rfl
  rotate_left
  · simp only [Act.put, List.setIfInBounds_toArray, List.set_cons_zero, List.set_cons_succ, i64_w, i32_w]
    rfl
  refine pure_ (i := 37) (N := some 113) (v := ?_) (a' := ?_) #[true, true, true, true, true, true, true, true, true, true, true, true, true, true, true, true, true, true, true, true, true, true, true, true, true, true, true, true, true, true, true, true, true, true, true, true, true, true] rfl rfl (by kernel_rfl) (fun _ _ _ h => h) (Or.inl ⟨by rfl, ?_⟩) ?_ ?_
  rotate_left
  · intro w'
    go_simp
    with_reducible rfl
  rotate_left
  · simp only [Act.put, List.setIfInBounds_toArray, List.set_cons_zero, List.set_cons_succ, i64_w, i32_w]
    rfl
  refine done_ (by kernel_rfl) ?_
  clear hq
  have hcell7 := fun w (hw : Below w13.heap.size w13 w) => box_cells ((hw.block _ (Array.getElem?_eq_some_iff.1 B7.out).1).trans B7.out)
  obtain ⟨z0, z1, z2, z3, z4, _⟩ := hcell7 w15 HB15.out
  have HBd := Aside0.mk (below_step HB.out HB15.out)
  rcases hsend.out with ⟨h1, rfl, rfl⟩ | ⟨G, h1, hG, h16, rfl, rfl⟩ | ⟨G, h1, hG, h16, rfl, hS, hSS⟩
  · have hb1 : (x2.f0 == x2.f1) = true := by simpa using h1
    clear hcell7 hsend hnone
    go_wp2
    go_ret
    exact ⟨rfl, HBd.out⟩
  · have hb1 : (x2.f0 == x2.f1) = false := by simpa using h1
    have h16b : (16 : Int) ≤ (G.length : Int) := by omega
    clear hcell7 hsend hnone h1
    go_wp2_with fail
    refine (demurralref18_Of.calls 41 A0 c0 x x2.f1 G _ (Kd.C_below Cx.out HB15.out) hx0 hG).mono ?_; rintro e_ w14 ⟨v, rfl, ho, hb⟩; obtain ⟨Ag, cg, rfl, hcg, h_⟩ := Kd.R_reads ho; clear ho h_
    go_wp2
    go_ret
    exact ⟨rfl, below_step HBd.out hb⟩
  · have hb1 : (x2.f0 == x2.f1) = false := by simpa using h1
    have h16b : ¬ (16 : Int) ≤ (G.length : Int) := by omega
    clear hsend hnone h1
    go_wp2_with fail
    refine (demurralref18_Of.calls 41 A0 c0 x x2.f1 G _ (Kd.C_below Cx.out HB15.out) hx0 hG).mono ?_; rintro e_ w14 ⟨v, rfl, ho, hb⟩; obtain ⟨Ag, cg, rfl, hcg, h_⟩ := Kd.R_reads ho; clear ho h_
    have hb13 : Below w13.heap.size w13 w14 := Below.trans HB15.out (Below.mono hb HB15.out.size)
    clear z0 z1 z2 z3 z4
    obtain ⟨z0, z1, z2, z3, z4, _⟩ := hcell7 w14 hb13
    clear hcell7
    replace Cx := Aside0.mk (Kd.C_below Cx.out hb13)
    replace Cs := Aside0.mk (Kd.C_below Cs.out hb13)
    replace HB := Aside0.mk (below_step HB.out hb13)
    clear hb hb13 HBd
    go_wp2_with fail
    refine (demurralref18_Send.calls A0 c0 x x2.f0 x2.f1 x2.f2 x2.f3 x2.f4 s _ Cx.out hx0 hS).mono ?_; rintro e_ w15 ⟨v, rfl, ho, hb⟩; obtain ⟨Ar, cr, rfl, hcr, h_⟩ := Kd.R_reads ho; have Cr := Aside0.mk h_; clear ho h_; replace Cs := Aside0.mk (Kd.C_below Cs.out hb); replace HB := Aside0.mk (below_step HB.out hb); clear hb z0 z1 z2 z3 z4
    go_wp2_with fail
    refine (demurralref18_Same.calls 42 As cs s Ar cr s true _ Cs.out hcs Cr.out hcr hSS).mono ?_; rintro e_ w16 ⟨rfl, hd⟩; have hb := hd.below; clear hd
    go_wp2
    go_ret
    exact ⟨rfl, below_step HB.out hb⟩
end Go.Proofs.Ytganchnnfjdooaa.Q
