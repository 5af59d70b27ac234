/- prekeys.point and prekeys.apart: whether points may be, and have numbers of their own.
   Conditions: the points are read as such, and their numbers are of 64 bits. -/
import Derived.Test.YtkomcddnfjbifaaQx0
import Derived.Handy
import Derived.Lib.Hide
import Derived.Maps.OwnOps
import Derived.Maps.Views
import Derived.RangeFuncBox
namespace Go.Proofs.Ytkomcddnfjbifaa.Q
open Go.RowKit Go.Proofs.YtkomcddnfjbifaaW.PrintWords Go.Proofs.YtkomcddnfjbifaaW.PrintLast Go.Proofs.YtkomcddnfjbifaaW.PrintMore
set_option linter.unusedVariables false
set_option linter.unusedSimpArgs false

def pointB (p : S26) : Bool := decide (0 < p.f0) && (p.f1.size == 32)
theorem point_calls (p : S26) (w : World) : Calls Try.prog 49 #[.agg #[.int .u64 p.f0, .string p.f1]] w fun e w' => e = .returned (.bool (pointB p)) ∧ Below w.heap.size w w' := by
  unfold pointB
  by_cases h1 : 0 < p.f0
  · have h1b : decide (0 < p.f0) = true := decide_eq_true h1
    by_cases h2 : p.f1.size = 32
    · have h2b : (p.f1.size == 32) = true := by rw [h2]; rfl
      have h2c : ((p.f1.size : Int) == 32) = true := by rw [h2]; rfl
      rw [h1b, h2b]
      go_enter Try.func49, Try.ntmps49
      go_wp2
      go_ret
      exact ⟨rfl, below_alloc (Below.refl _ _) _⟩
    · have h2b : (p.f1.size == 32) = false := beq_eq_false_iff_ne.2 h2
      have h2c : ((p.f1.size : Int) == 32) = false := beq_eq_false_iff_ne.2 (by omega)
      rw [h1b, h2b]
      go_enter Try.func49, Try.ntmps49
      go_wp2
      go_ret
      exact ⟨rfl, below_alloc (Below.refl _ _) _⟩
  · have h1b : decide (0 < p.f0) = false := decide_eq_false h1
    rw [h1b]
    go_enter Try.func49, Try.ntmps49
    go_wp2
    go_ret
    exact ⟨rfl, below_alloc (Below.refl _ _) _⟩
/-- The point at a place may be, and its number was not there ahead. -/
def okAt (l : List S26) (i : Nat) : Bool := pointB (rd_T26 l i) && !((l.take i).map (·.f0)).contains (rd_T26 l i).f0
def apartB (l : List S26) : Bool := (List.range l.length).all fun i => okAt l i
theorem apartB_no (l : List S26) (i : Nat) (hi : i < l.length) (h : okAt l i = false) : apartB l = false := by
  unfold apartB
  rw [List.all_eq_false]
  exact ⟨i, List.mem_range.2 hi, by simp [h]⟩
theorem apartB_yes (l : List S26) (h : ∀ i, i < l.length → okAt l i = true) : apartB l = true := by
  unfold apartB
  rw [List.all_eq_true]
  exact fun i hi => h i (List.mem_range.1 hi)
/-- The map holds 1 at the numbers that were there, nothing else. -/
def Seen (D : DataW Unit) (ks : List Int) : Prop := Maps.IsMap D ∧ ∀ k : Int, D.atKey (.int .u64 k) (.lit (.int .i64 0)) = .lit (.int .i64 (if ks.contains k then 1 else 0))
theorem seen_none : Seen (.map []) [] := ⟨Maps.isMap_empty, fun k => rfl⟩
theorem below_grown {w w' : World} (h : Below w.heap.size w w') : w.grownBy w' none := ⟨h.os, h.tape, h.output, h.size, fun k hk _ => h.block k hk⟩
theorem lit_inj {a b : Int} (h : (DataW.lit (.int .i64 a) : DataW Unit) = .lit (.int .i64 b)) : a = b := by
  injection h with h
  injection h
theorem take_snoc (l : List S26) (i : Nat) (hi : i < l.length) : (l.take (i + 1)).map (·.f0) = (l.take i).map (·.f0) ++ [(rd_T26 l i).f0] := by
  rw [List.take_succ_eq_append_getElem hi, List.map_append]
  simp [rd_T26, hi]
theorem seen_put {D : DataW Unit} {ks : List Int} (h : Seen D ks) (k : Int) (hk : ks.contains k = false) : Seen (D.put (.int .u64 k) (.lit (.int .i64 1))) (ks ++ [k]) := by
  obtain ⟨hm, ha⟩ := h
  refine ⟨?_, fun k' => ?_⟩
  · obtain ⟨es, rfl⟩ := hm
    exact ⟨_, rfl⟩
  · by_cases e : k' = k
    · subst e
      rw [Maps.atKey_put_same hm (by trivial), if_pos (by simp)]
    · rw [Maps.atKey_put_other (by intro h'; injection h' with _ h'; exact e h'), ha k']
      congr 2
      have : (ks ++ [k]).contains k' = ks.contains k' := by
        rw [List.contains_append]
        simp [e]
      rw [this]
set_option maxHeartbeats 4000000 in
set_option maxRecDepth 100000 in
theorem apart_calls (A0 : Option Addr) (c0 : Nat) (l0 : List S26) (w : World) (hr0 : Kd.C k26 w A0 l0.length l0) (hc0 : l0.length ≤ c0) (hlen : l0.length ≤ 1000000) (hwf : ∀ p ∈ l0, (Lit.int .u64 p.f0).wf = true) :
    Calls Try.prog 41 #[.slice A0 l0.length c0] w fun e w' => e = .returned (.bool (apartB l0)) ∧ Below w.heap.size w w' := by
  have hmm := @run_makeMap Try.prog
  go_enter Try.func41, Try.ntmps41
  go_wp2
  clear hmm
  have hown0 := World.ownsMap_made (H := Unit) w Try.prog 23 (plainElem Try.prog 3)
  have hb0 : Below w.heap.size w (w.alloc (.map #[] 0)) := below_alloc (Below.refl _ _) _
  go_loopw [9] (fun v wr => ∃ (i : Nat) (D : DataW Unit), i ≤ l0.length ∧ v = .int .i64 (i : Int) ∧ wr.ownsMap Try.prog 23 (plainElem Try.prog 3) w.heap.size i D ∧ Seen D ((l0.take i).map (·.f0)) ∧ (∀ j, j < i → okAt l0 j = true) ∧ Below w.heap.size w wr) (fun v _ => l0.length - (intOf v).toNat)
  case atStart => exact ⟨0, _, by omega, rfl, hown0, seen_none, fun j h => by omega, hb0⟩
  case round =>
    clear hown0 hb0
    obtain ⟨i, D, hi, rfl, hown, hS, hok, hB⟩ := hrel
    by_cases hlt : (i : Int) < l0.length
    · obtain ⟨ad, eA, q0, q1⟩ := at_T26 (Kd.C_below hr0 hB) (i : Int) (by omega) hlt
      subst eA
      have hts := take_snoc l0 i (by omega)
      have hoki : okAt l0 i = (pointB (rd_T26 l0 i) && !((l0.take i).map (·.f0)).contains (rd_T26 l0 i).f0) := rfl
      have hno := apartB_no l0 i (by omega)
      have hw1 := hwf (rd_T26 l0 i) (by simp [rd_T26, show i < l0.length by omega])
      generalize rd_T26 l0 i = p at q0 q1 hts hoki hw1
      rw [Int.toNat_natCast] at q0 q1
      obtain ⟨ks, hks⟩ : ∃ ks, (l0.take i).map (·.f0) = ks := ⟨_, rfl⟩
      rw [hks] at hS hts hoki
      have hkey : keyOf Try.prog 23 (.int .u64 p.f0) = some (.int .u64 p.f0) := Maps.keyOf_int_mk Try.underlying23 hw1
      obtain ⟨w1, hw1'⟩ : ∃ w1, wr.alloc (.cells #[.int .u64 p.f0, .string p.f1] 26 (0, 0)) = w1 := ⟨_, rfl⟩
      have hb1 : Below wr.heap.size wr w1 := by rw [← hw1']; exact below_alloc (Below.refl _ _) _
      have hK1 : w1.heap[wr.heap.size]? = some (.cells #[.int .u64 p.f0, .string p.f1] 26 (0, 0)) := by rw [← hw1']; exact heap_alloc_new _ _
      have hown1 := hown.kept (row := none) (below_grown hb1) (by simp)
      have hB1 := below_step hB hb1
      have hmb : w.heap.size < wr.heap.size := by
        obtain ⟨es, clock, hh, _⟩ := hown
        exact (Array.getElem?_eq_some_iff.1 hh).1
      have z0 : w1.cell? ⟨wr.heap.size, 0, none⟩ = some (.int .u64 p.f0) := (blk_cell hK1 0).trans rfl
      have z1 : w1.cell? ⟨wr.heap.size, 1, none⟩ = some (.string p.f1) := (blk_cell hK1 1).trans rfl
      obtain ⟨c, hc⟩ : ∃ c : Int, c = if ks.contains p.f0 then 1 else 0 := ⟨_, rfl⟩
      have hSk := hS.2 p.f0
      rw [← hc] at hSk
      have hcr : 0 ≤ c ∧ c ≤ 1 := by rw [hc]; split <;> omega
      have hwc : wrap64 (c + 1) = c + 1 := by unfold wrap64; omega
      have hcw : (Lit.int .i64 (c + 1)).wf = true := by have := wrap64_wf (c + 1); rwa [hwc] at this
      replace hSk := Lib.hid hSk
      replace hc := Lib.hid hc
      go_wp2_with (first
        | (at_lookup; refine wpList_lookup_own_int _ rfl _ _ 62 rfl 23 3 .i64 (Maps.int_keyed Try.underlying23) Try.underlying62 Try.underlying3 (Try.zeroValue3 _) w.heap.size i _ rfl hown1 _ _ rfl hkey ?_; intro c' hat _; obtain rfl : c' = c := lit_inj (hat.symm.trans hSk.out))
        | (at_mapUpdate; refine wpList_mapUpdate_own _ rfl _ _ _ 62 rfl 23 3 (Maps.int_keyed Try.underlying23) Try.underlying62 _ w.heap.size i _ rfl hown1 (by unfold maxLen; omega) _ _ _ rfl rfl hkey _ [] (plainElem_int Try.underlying3 hcw) ?_; intro w2 hown2 hg2; have hK2 := (hg2.block wr.heap.size (Array.getElem?_eq_some_iff.1 hK1).1 (by simp; omega)).trans hK1; clear z0 z1 hown1; have y0 : w2.cell? ⟨wr.heap.size, 0, none⟩ = some (.int .u64 p.f0) := (blk_cell hK2 0).trans rfl; have y1 : w2.cell? ⟨wr.heap.size, 1, none⟩ = some (.string p.f1) := (blk_cell hK2 1).trans rfl))
      refine (point_calls p _).mono ?_; rintro e_ w3 ⟨rfl, hb3⟩
      have hB2 : Below w.heap.size w w2 := pw_below_grown hB1 _ hB1.size hg2 (fun k hk => by injection hk with hk; omega)
      have hB3 := below_step hB2 hb3
      have hown3 := hown2.kept (row := none) (below_grown hb3) (by simp)
      have hK3 := (hb3.block wr.heap.size (Array.getElem?_eq_some_iff.1 hK2).1).trans hK2
      have x0 : w3.cell? ⟨wr.heap.size, 0, none⟩ = some (.int .u64 p.f0) := (blk_cell hK3 0).trans rfl
      have hat3 : Hid ((D.put (.int .u64 p.f0) (.lit (.int .i64 (c' + 1)))).atKey (.int .u64 p.f0) (.lit (.int .i64 0)) = .lit (.int .i64 (c' + 1))) := Lib.hid (Maps.atKey_put_same hS.1 (by trivial) _ _)
      clear y0 y1 hown2 hg2 hK2 hK1 hwc
      cases hpb : pointB p with
      | false =>
        have hf : apartB l0 = false := hno (by rw [hoki, hpb]; rfl)
        go_wp2
        go_ret
        exact ⟨by simp [hf], hB3⟩
      | true =>
        cases hcn : ks.contains p.f0 with
        | true =>
          have hc1 : c' = 1 := by rw [hc.out, if_pos hcn]
          subst hc1
          have hf : apartB l0 = false := hno (by rw [hoki, hpb, hcn]; rfl)
          obtain ⟨c2, hrun, hat, _⟩ := hown3.lookup_int (Maps.int_keyed Try.underlying23) Try.underlying62 Try.underlying3 (Try.zeroValue3 _) hkey
          obtain rfl : c2 = 2 := lit_inj (hat.symm.trans hat3.out)
          go_wp2
          go_ret
          exact ⟨by simp [hf], hB3⟩
        | false =>
          have hc1 : c' = 0 := by rw [hc.out, if_neg (by rw [hcn]; simp)]
          subst hc1
          have hS2 := seen_put hS p.f0 hcn
          rw [← hts] at hS2
          have hok2 : ∀ j, j < i + 1 → okAt l0 j = true := fun j hj => by
            by_cases e : j = i
            · subst e; rw [hoki, hpb, hcn]; rfl
            · exact hok j (by omega)
          replace hS2 := Lib.hid hS2
          replace hok2 := Lib.hid hok2
          obtain ⟨c2, hrun, hat, _⟩ := hown3.lookup_int (Maps.int_keyed Try.underlying23) Try.underlying62 Try.underlying3 (Try.zeroValue3 _) hkey
          obtain rfl : c2 = 1 := lit_inj (hat.symm.trans hat3.out)
          go_wp2
          go_roundw
          case rel => exact ⟨i + 1, _, by omega, by go_num, hown3, hS2.out, hok2.out, hB3⟩
          case measure => simp [intOf]; omega
    · obtain rfl : i = l0.length := by omega
      have hyes := apartB_yes l0 hok
      go_wp2
      go_ret
      exact ⟨by simp [hyes], hB⟩
end Go.Proofs.Ytkomcddnfjbifaa.Q
namespace Go.Proofs.Ytkomcddnfjbifaa.Q
open Go.RowKit Go.Proofs.YtkomcddnfjbifaaW.PrintWords Go.Proofs.YtkomcddnfjbifaaW.PrintLast Go.Proofs.YtkomcddnfjbifaaW.PrintMore
set_option linter.unusedVariables false
set_option linter.unusedSimpArgs false

/-- A shelf as a value. -/
abbrev sv (x : S29) (A : Option Addr) (c : Nat) : Value := .agg #[.int .u64 x.f0, .string x.f1, .int .u64 x.f2.f0, .string x.f2.f1, .slice A x.f3.length c]
def shelfB (x : S29) : Bool := (x.f1.size == 32) && ((x.f2.f1.size == 32) && (decide (x.f3.length ≤ 20) && apartB x.f3))
set_option maxHeartbeats 2000000 in
set_option maxRecDepth 100000 in
theorem shelf_calls (x : S29) (A : Option Addr) (c : Nat) (w : World) (hC : Kd.C k26 w A x.f3.length x.f3) (hc : x.f3.length ≤ c) (hwf : ∀ p ∈ x.f3, (Lit.int .u64 p.f0).wf = true) :
    Calls Try.prog 33 #[sv x A c] w fun e w' => e = .returned (.bool (shelfB x)) ∧ Below w.heap.size w w' := by
  unfold shelfB
  obtain ⟨w1, hw1⟩ : ∃ w1, w.alloc (.cells #[.int .u64 x.f0, .string x.f1, .int .u64 x.f2.f0, .string x.f2.f1, .slice A x.f3.length c] 29 (0, 0)) = w1 := ⟨_, rfl⟩
  have hb1 : Below w.heap.size w w1 := by rw [← hw1]; exact below_alloc (Below.refl _ _) _
  have hK : w1.heap[w.heap.size]? = some (.cells #[.int .u64 x.f0, .string x.f1, .int .u64 x.f2.f0, .string x.f2.f1, .slice A x.f3.length c] 29 (0, 0)) := by rw [← hw1]; exact heap_alloc_new _ _
  have z1 : w1.cell? ⟨w.heap.size, 1, none⟩ = some (.string x.f1) := (blk_cell hK 1).trans rfl
  have z3 : w1.cell? ⟨w.heap.size, 3, none⟩ = some (.string x.f2.f1) := (blk_cell hK 3).trans rfl
  have z4 : w1.cell? ⟨w.heap.size, 4, none⟩ = some (.slice A x.f3.length c) := (blk_cell hK 4).trans rfl
  clear hK
  by_cases h1 : x.f1.size = 32
  · have e1 : (x.f1.size == 32) = true := by rw [h1]; rfl
    have e1b : ((x.f1.size : Int) == 32) = true := by rw [h1]; rfl
    by_cases h2 : x.f2.f1.size = 32
    · have e2 : (x.f2.f1.size == 32) = true := by rw [h2]; rfl
      have e2b : ((x.f2.f1.size : Int) == 32) = true := by rw [h2]; rfl
      by_cases h3 : x.f3.length ≤ 20
      · have e3 : decide (x.f3.length ≤ 20) = true := decide_eq_true h3
        have e3b : decide ((x.f3.length : Int) ≤ 20) = true := decide_eq_true (by omega)
        have hap := Aside0.mk (apart_calls A c x.f3 w1 (Kd.C_below hC hb1) hc (by omega) hwf)
        rw [e1, e2, e3]
        go_enter Try.func33, Try.ntmps33
        go_wp2_with fail
        refine hap.out.mono ?_; rintro e_ w2 ⟨rfl, hb⟩
        go_wp2
        go_ret
        exact ⟨rfl, below_step hb1 hb⟩
      · have e3 : decide (x.f3.length ≤ 20) = false := decide_eq_false h3
        have e3b : decide ((x.f3.length : Int) ≤ 20) = false := decide_eq_false (by omega)
        rw [e1, e2, e3]
        go_enter Try.func33, Try.ntmps33
        go_wp2
        go_ret
        exact ⟨rfl, hb1⟩
    · have e2 : (x.f2.f1.size == 32) = false := beq_eq_false_iff_ne.2 h2
      have e2b : ((x.f2.f1.size : Int) == 32) = false := beq_eq_false_iff_ne.2 (by omega)
      rw [e1, e2]
      go_enter Try.func33, Try.ntmps33
      go_wp2
      go_ret
      exact ⟨rfl, hb1⟩
  · have e1 : (x.f1.size == 32) = false := beq_eq_false_iff_ne.2 h1
    have e1b : ((x.f1.size : Int) == 32) = false := beq_eq_false_iff_ne.2 (by omega)
    rw [e1]
    go_enter Try.func33, Try.ntmps33
    go_wp2
    go_ret
    exact ⟨rfl, hb1⟩
end Go.Proofs.Ytkomcddnfjbifaa.Q
namespace Go.Proofs.Ytkomcddnfjbifaa.Q
open Go.RowKit Go.Proofs.YtkomcddnfjbifaaW.PrintWords Go.Proofs.YtkomcddnfjbifaaW.PrintLast Go.Proofs.YtkomcddnfjbifaaW.PrintMore
set_option linter.unusedVariables false
set_option linter.unusedSimpArgs false

def cmpI (a b : Int) : Int := if a < b then -1 else if b < a then 1 else 0
theorem compare_calls (a b : Int) (w : World) : Calls Try.prog 45 #[.int .u64 a, .int .u64 b] w fun e w' => e = .returned (.int .i64 (cmpI a b)) ∧ Below w.heap.size w w' := by
  unfold cmpI
  by_cases h1 : a < b
  · have e1 : decide (a < b) = true := decide_eq_true h1
    rw [if_pos h1]
    go_enter Try.func45, Try.ntmps45
    go_wp2
    go_ret
    exact ⟨rfl, Below.refl _ _⟩
  · have e1 : decide (a < b) = false := decide_eq_false h1
    rw [if_neg h1]
    by_cases h2 : b < a
    · have e2 : decide (b < a) = true := decide_eq_true h2
      rw [if_pos h2]
      go_enter Try.func45, Try.ntmps45
      go_wp2
      go_ret
      exact ⟨rfl, Below.refl _ _⟩
    · have e2 : decide (b < a) = false := decide_eq_false h2
      rw [if_neg h2]
      go_enter Try.func45, Try.ntmps45
      go_wp2
      go_ret
      exact ⟨rfl, Below.refl _ _⟩
theorem cmp_calls (x : S29) (A : Option Addr) (c : Nat) (u : Int) (w : World) : Calls Try.prog 44 #[sv x A c, .int .u64 u] w fun e w' => e = .returned (.int .i64 (cmpI x.f0 u)) ∧ Below w.heap.size w w' := by

  obtain ⟨w1, hw1⟩ : ∃ w1, w.alloc (.cells #[.int .u64 x.f0, .string x.f1, .int .u64 x.f2.f0, .string x.f2.f1, .slice A x.f3.length c] 29 (0, 0)) = w1 := ⟨_, rfl⟩
  have hb1 : Below w.heap.size w w1 := by rw [← hw1]; exact below_alloc (Below.refl _ _) _
  have hK : w1.heap[w.heap.size]? = some (.cells #[.int .u64 x.f0, .string x.f1, .int .u64 x.f2.f0, .string x.f2.f1, .slice A x.f3.length c] 29 (0, 0)) := by rw [← hw1]; exact heap_alloc_new _ _
  have z0 : w1.cell? ⟨w.heap.size, 0, none⟩ = some (.int .u64 x.f0) := (blk_cell hK 0).trans rfl
  clear hK
  go_enter Try.func44, Try.ntmps44
  go_wp2_with fail
  refine (compare_calls x.f0 u _).mono ?_; rintro e_ w2 ⟨rfl, hb⟩
  go_wp2
  go_ret
  exact ⟨rfl, below_step hb1 hb⟩
/-- Where a user's shelf is, or would be, in a list that rises. -/
def foundR (l : List S29) (u : Int) (i : Nat) (is : Bool) : Prop :=
  i ≤ l.length ∧ (0 < i → (rd_T29 l ((i - 1 : Nat) : Int)).f0 < u) ∧ (i < l.length → u ≤ (rd_T29 l (i : Int)).f0) ∧ is = (decide (i < l.length) && ((rd_T29 l (i : Int)).f0 == u))
def FoundE (l : List S29) (u : Int) (e : Ending) : Prop := ∃ (i : Nat) (is : Bool), e = .returned (.tuple #[.int .i64 (i : Int), .bool is]) ∧ foundR l u i is
set_option maxHeartbeats 4000000 in
set_option maxRecDepth 100000 in
theorem search_calls (A0 : Option Addr) (c0 : Nat) (l0 : List S29) (u : Int) (w : World) (hr0 : Kd.C k29 w A0 l0.length l0) (hc0 : l0.length ≤ c0) (hlen : l0.length ≤ 1000000) :
    Calls Try.prog 43 #[.slice A0 l0.length c0, .int .u64 u, .func (.func 44) #[] #[]] w fun e w' => FoundE l0 u e ∧ Below w.heap.size w w' := by
  go_enter Try.func43, Try.ntmps43
  go_wp2
  go_loopw [9, 10] (fun p q wr => ∃ lo hi : Nat, lo ≤ hi ∧ hi ≤ l0.length ∧ p = .int .i64 (lo : Int) ∧ q = .int .i64 (hi : Int) ∧ (0 < lo → (rd_T29 l0 ((lo - 1 : Nat) : Int)).f0 < u) ∧ (hi < l0.length → u ≤ (rd_T29 l0 (hi : Int)).f0) ∧ Below w.heap.size w wr) (fun p q _ => (intOf q).toNat - (intOf p).toNat)
  case atStart => exact ⟨0, l0.length, by omega, by omega, rfl, rfl, by omega, by omega, Below.refl _ _⟩
  case round =>
    obtain ⟨lo, hi, h1, h2, rfl, rfl, hlo, hhi, hB⟩ := hrel
    by_cases hlt : (lo : Int) < hi
    · obtain ⟨m, hm⟩ : ∃ m, (lo + hi) / 2 = m := ⟨_, rfl⟩
      have hm1 : lo ≤ m := by omega
      have hm2 : m < hi := by omega
      have hm3 : ((lo : Int) + hi) / 2 = (m : Int) := by omega
      obtain ⟨ad, A4, c4, eA, q0, q1, q2, q3, q4, _, _⟩ := at_T29 (Kd.C_below hr0 hB) (m : Int) (by omega) (by omega)
      subst eA
      obtain ⟨x, hx⟩ : ∃ x, rd_T29 l0 (m : Int) = x := ⟨_, rfl⟩
      rw [hx, Int.toNat_natCast] at q0 q1 q2 q3 q4
      replace hlo := Lib.hid hlo
      replace hhi := Lib.hid hhi
      replace hx := Lib.hid hx
      have hxx : ∀ q : Int, (q = cmpI x.f0 u) → (q < 0 ↔ x.f0 < u) := by
        rintro q rfl
        unfold cmpI
        split
        · constructor <;> intro _ <;> first | assumption | decide
        · split
          · constructor <;> intro h <;> omega
          · constructor <;> intro h <;> omega
      go_wp2_with fail
      refine (cmp_calls x A4 c4 u wr).mono ?_; rintro e_ w2 ⟨rfl, hb⟩
      obtain ⟨q, hq⟩ : ∃ q, cmpI x.f0 u = q := ⟨_, rfl⟩
      rw [hq]
      have hqq := hxx q hq.symm
      clear hxx hq q0 q1 q2 q3 q4
      by_cases hc : x.f0 < u
      · have hq1 : decide (q < 0) = true := decide_eq_true (hqq.2 hc)
        go_wp2
        go_roundw
        case rel => exact ⟨m + 1, hi, by omega, h2, by go_num, rfl, fun _ => by rw [Nat.add_sub_cancel, hx.out]; exact hc, hhi.out, below_step hB hb⟩
        case measure => simp [intOf]; omega
      · have hq1 : decide (q < 0) = false := decide_eq_false (fun h => hc (hqq.1 h))
        go_wp2
        go_roundw
        case rel => exact ⟨lo, m, hm1, by omega, rfl, rfl, hlo.out, fun _ => by rw [hx.out]; omega, below_step hB hb⟩
        case measure => simp [intOf]; omega
    · obtain rfl : lo = hi := by omega
      replace hlo := Lib.hid hlo
      replace hhi := Lib.hid hhi
      by_cases hn : (lo : Int) < l0.length
      · obtain ⟨ad, A4, c4, eA, q0, q1, q2, q3, q4, _, _⟩ := at_T29 (Kd.C_below hr0 hB) (lo : Int) (by omega) hn
        subst eA
        obtain ⟨x, hx⟩ : ∃ x, rd_T29 l0 (lo : Int) = x := ⟨_, rfl⟩
        rw [hx, Int.toNat_natCast] at q0 q1 q2 q3 q4
        replace hx := Lib.hid hx
        have hxx : ∀ q : Int, (q = cmpI x.f0 u) → (q == 0) = (x.f0 == u) := by
          rintro q rfl
          unfold cmpI
          split
          · rw [beq_eq_false_iff_ne.2 (by decide), beq_eq_false_iff_ne.2 (by omega)]
          · split
            · rw [beq_eq_false_iff_ne.2 (by decide), beq_eq_false_iff_ne.2 (by omega)]
            · rw [show x.f0 = u by omega]; simp
        go_wp2_with fail
        refine (cmp_calls x A4 c4 u wr).mono ?_; rintro e_ w2 ⟨rfl, hb⟩
        obtain ⟨q, hq⟩ : ∃ q, cmpI x.f0 u = q := ⟨_, rfl⟩
        rw [hq]
        have hqq := hxx q hq.symm
        clear hxx hq q0 q1 q2 q3 q4
        have hfin : FoundE l0 u (.returned (.tuple #[.int .i64 (lo : Int), .bool (x.f0 == u)])) := ⟨lo, _, rfl, h2, hlo.out, hhi.out, by rw [hx.out, decide_eq_true (by omega), Bool.true_and]⟩
        replace hfin := Lib.hid hfin
        go_wp2
        go_ret2
        exact ⟨hfin.out, below_step hB hb⟩
      · have hfin : FoundE l0 u (.returned (.tuple #[.int .i64 (lo : Int), .bool false])) := ⟨lo, _, rfl, h2, hlo.out, hhi.out, by rw [decide_eq_false (by omega), Bool.false_and]⟩
        replace hfin := Lib.hid hfin
        go_wp2
        go_ret2
        exact ⟨hfin.out, hB⟩
theorem find_calls (A0 : Option Addr) (c0 : Nat) (l0 : List S29) (u : Int) (w : World) (hr0 : Kd.C k29 w A0 l0.length l0) (hc0 : l0.length ≤ c0) (hlen : l0.length ≤ 1000000) :
    Calls Try.prog 29 #[.slice A0 l0.length c0, .int .u64 u] w fun e w' => FoundE l0 u e ∧ Below w.heap.size w w' := by
  go_enter Try.func29, Try.ntmps29
  go_wp2_with fail
  refine (search_calls A0 c0 l0 u _ hr0 hc0 hlen).mono ?_; rintro e_ w2 ⟨⟨i, is, rfl, hf⟩, hb⟩
  go_wp2
  go_ret2
  exact ⟨⟨i, is, rfl, hf⟩, hb⟩
end Go.Proofs.Ytkomcddnfjbifaa.Q
