/- cmp.Compare, relay.find's own function, slices.BinarySearchFunc at boxes.
   Conditions: the list is read as boxes. -/
import Derived.Test.YtbmfcikjhnnnbaaQx0
import Derived.Handy
import Derived.Lib.Hide
import Derived.Maps.OwnOps
import Derived.Maps.Views
import Derived.RangeFuncBox
import Derived.WalkSpells
namespace Go.Proofs.Ytbmfcikjhnnnbaa.Q
open Go.RowKit Go.Proofs.YtbmfcikjhnnnbaaW.PrintWords Go.Proofs.YtbmfcikjhnnnbaaW.PrintLast Go.Proofs.YtbmfcikjhnnnbaaW.PrintMore
set_option linter.unusedVariables false
set_option linter.unusedSimpArgs false

/-- A box as a value. -/
abbrev sv (x : S57) (A : Option Addr) (c : Nat) : Value := .agg #[.int .u64 x.f0, .slice A x.f1.length c]
theorem below_grown {w w' : World} (h : Below w.heap.size w w') : w.grownBy w' none := ⟨h.os, h.tape, h.output, h.size, fun k hk _ => h.block k hk⟩
def cmpI (a b : Int) : Int := if a < b then -1 else if b < a then 1 else 0
theorem compare_calls (a b : Int) (w : World) : Calls Try.prog 46 #[.int .u64 a, .int .u64 b] w fun e w' => e = .returned (.int .i64 (cmpI a b)) ∧ Below w.heap.size w w' := by
  unfold cmpI
  by_cases h1 : a < b
  · have e1 : decide (a < b) = true := decide_eq_true h1
    rw [if_pos h1]
    go_enter Try.func46, Try.ntmps46
    go_wp2
    go_ret
    exact ⟨rfl, Below.refl _ _⟩
  · have e1 : decide (a < b) = false := decide_eq_false h1
    rw [if_neg h1]
    by_cases h2 : b < a
    · have e2 : decide (b < a) = true := decide_eq_true h2
      rw [if_pos h2]
      go_enter Try.func46, Try.ntmps46
      go_wp2
      go_ret
      exact ⟨rfl, Below.refl _ _⟩
    · have e2 : decide (b < a) = false := decide_eq_false h2
      rw [if_neg h2]
      go_enter Try.func46, Try.ntmps46
      go_wp2
      go_ret
      exact ⟨rfl, Below.refl _ _⟩
theorem cmp_calls (x : S57) (A : Option Addr) (c : Nat) (u : Int) (w : World) : Calls Try.prog 45 #[sv x A c, .int .u64 u] w fun e w' => e = .returned (.int .i64 (cmpI x.f0 u)) ∧ Below w.heap.size w w' := by

  obtain ⟨w1, hw1⟩ : ∃ w1, w.alloc (.cells #[.int .u64 x.f0, .slice A x.f1.length c] 57 (0, 0)) = w1 := ⟨_, rfl⟩
  have hb1 : Below w.heap.size w w1 := by rw [← hw1]; exact below_alloc (Below.refl _ _) _
  have hK : w1.heap[w.heap.size]? = some (.cells #[.int .u64 x.f0, .slice A x.f1.length c] 57 (0, 0)) := by rw [← hw1]; exact heap_alloc_new _ _
  have z0 : w1.cell? ⟨w.heap.size, 0, none⟩ = some (.int .u64 x.f0) := (blk_cell hK 0).trans rfl
  clear hK
  go_enter Try.func45, Try.ntmps45
  go_wp2_with fail
  refine (compare_calls x.f0 u _).mono ?_; rintro e_ w2 ⟨rfl, hb⟩
  go_wp2
  go_ret
  exact ⟨rfl, below_step hb1 hb⟩
/-- Where a user's shelf is, or would be, in a list that rises. -/
def foundR (l : List S57) (u : Int) (i : Nat) (is : Bool) : Prop :=
  i ≤ l.length ∧ (0 < i → (rd_T57 l ((i - 1 : Nat) : Int)).f0 < u) ∧ (i < l.length → u ≤ (rd_T57 l (i : Int)).f0) ∧ is = (decide (i < l.length) && ((rd_T57 l (i : Int)).f0 == u))
def FoundE (l : List S57) (u : Int) (e : Ending) : Prop := ∃ (i : Nat) (is : Bool), e = .returned (.tuple #[.int .i64 (i : Int), .bool is]) ∧ foundR l u i is
set_option maxHeartbeats 4000000 in
set_option maxRecDepth 100000 in
theorem search_calls (A0 : Option Addr) (c0 : Nat) (l0 : List S57) (u : Int) (w : World) (hr0 : Kd.C k57 w A0 l0.length l0) (hc0 : l0.length ≤ c0) (hlen : l0.length ≤ 1000000) :
    Calls Try.prog 44 #[.slice A0 l0.length c0, .int .u64 u, .func (.func 45) #[] #[]] w fun e w' => FoundE l0 u e ∧ Below w.heap.size w w' := by
  go_enter Try.func44, Try.ntmps44
  go_wp2
  go_loopw [9, 10] (fun p q wr => ∃ lo hi : Nat, lo ≤ hi ∧ hi ≤ l0.length ∧ p = .int .i64 (lo : Int) ∧ q = .int .i64 (hi : Int) ∧ (0 < lo → (rd_T57 l0 ((lo - 1 : Nat) : Int)).f0 < u) ∧ (hi < l0.length → u ≤ (rd_T57 l0 (hi : Int)).f0) ∧ Below w.heap.size w wr) (fun p q _ => (intOf q).toNat - (intOf p).toNat)
  case atStart => exact ⟨0, l0.length, by omega, by omega, rfl, rfl, by omega, by omega, Below.refl _ _⟩
  case round =>
    obtain ⟨lo, hi, h1, h2, rfl, rfl, hlo, hhi, hB⟩ := hrel
    by_cases hlt : (lo : Int) < hi
    · obtain ⟨m, hm⟩ : ∃ m, (lo + hi) / 2 = m := ⟨_, rfl⟩
      have hm1 : lo ≤ m := by omega
      have hm2 : m < hi := by omega
      have hm3 : ((lo : Int) + hi) / 2 = (m : Int) := by omega
      obtain ⟨ad, A4, c4, eA, q0, q4, _, _⟩ := at_T57 (Kd.C_below hr0 hB) (m : Int) (by omega) (by omega)
      subst eA
      obtain ⟨x, hx⟩ : ∃ x, rd_T57 l0 (m : Int) = x := ⟨_, rfl⟩
      rw [hx, Int.toNat_natCast] at q0 q4
      replace hlo := Lib.hid hlo
      replace hhi := Lib.hid hhi
      replace hx := Lib.hid hx
      have hxx : ∀ q : Int, (q = cmpI x.f0 u) → (q < 0 ↔ x.f0 < u) := by
        rintro q rfl
        unfold cmpI
        split
        · constructor <;> intro _ <;> first | assumption | decide
        · split
          · constructor <;> intro h <;> omega
          · constructor <;> intro h <;> omega
      go_wp2_with fail
      refine (cmp_calls x A4 c4 u wr).mono ?_; rintro e_ w2 ⟨rfl, hb⟩
      obtain ⟨q, hq⟩ : ∃ q, cmpI x.f0 u = q := ⟨_, rfl⟩
      rw [hq]
      have hqq := hxx q hq.symm
      clear hxx hq q0 q4
      by_cases hc : x.f0 < u
      · have hq1 : decide (q < 0) = true := decide_eq_true (hqq.2 hc)
        go_wp2
        go_roundw
        case rel => exact ⟨m + 1, hi, by omega, h2, by go_num, rfl, fun _ => by rw [Nat.add_sub_cancel, hx.out]; exact hc, hhi.out, below_step hB hb⟩
        case measure => simp [intOf]; omega
      · have hq1 : decide (q < 0) = false := decide_eq_false (fun h => hc (hqq.1 h))
        go_wp2
        go_roundw
        case rel => exact ⟨lo, m, hm1, by omega, rfl, rfl, hlo.out, fun _ => by rw [hx.out]; omega, below_step hB hb⟩
        case measure => simp [intOf]; omega
    · obtain rfl : lo = hi := by omega
      replace hlo := Lib.hid hlo
      replace hhi := Lib.hid hhi
      by_cases hn : (lo : Int) < l0.length
      · obtain ⟨ad, A4, c4, eA, q0, q4, _, _⟩ := at_T57 (Kd.C_below hr0 hB) (lo : Int) (by omega) hn
        subst eA
        obtain ⟨x, hx⟩ : ∃ x, rd_T57 l0 (lo : Int) = x := ⟨_, rfl⟩
        rw [hx, Int.toNat_natCast] at q0 q4
        replace hx := Lib.hid hx
        have hxx : ∀ q : Int, (q = cmpI x.f0 u) → (q == 0) = (x.f0 == u) := by
          rintro q rfl
          unfold cmpI
          split
          · rw [beq_eq_false_iff_ne.2 (by decide), beq_eq_false_iff_ne.2 (by omega)]
          · split
            · rw [beq_eq_false_iff_ne.2 (by decide), beq_eq_false_iff_ne.2 (by omega)]
            · rw [show x.f0 = u by omega]; simp
        go_wp2_with fail
        refine (cmp_calls x A4 c4 u wr).mono ?_; rintro e_ w2 ⟨rfl, hb⟩
        obtain ⟨q, hq⟩ : ∃ q, cmpI x.f0 u = q := ⟨_, rfl⟩
        rw [hq]
        have hqq := hxx q hq.symm
        clear hxx hq q0 q4
        have hfin : FoundE l0 u (.returned (.tuple #[.int .i64 (lo : Int), .bool (x.f0 == u)])) := ⟨lo, _, rfl, h2, hlo.out, hhi.out, by rw [hx.out, decide_eq_true (by omega), Bool.true_and]⟩
        replace hfin := Lib.hid hfin
        go_wp2
        go_ret2
        exact ⟨hfin.out, below_step hB hb⟩
      · have hfin : FoundE l0 u (.returned (.tuple #[.int .i64 (lo : Int), .bool false])) := ⟨lo, _, rfl, h2, hlo.out, hhi.out, by rw [decide_eq_false (by omega), Bool.false_and]⟩
        replace hfin := Lib.hid hfin
        go_wp2
        go_ret2
        exact ⟨hfin.out, hB⟩
end Go.Proofs.Ytbmfcikjhnnnbaa.Q
namespace Go.Proofs.Ytbmfcikjhnnnbaa.Q
open Go.RowKit Go.Proofs.YtbmfcikjhnnnbaaW.PrintWords Go.Proofs.YtbmfcikjhnnnbaaW.PrintLast Go.Proofs.YtbmfcikjhnnnbaaW.PrintMore
set_option linter.unusedVariables false
set_option linter.unusedSimpArgs false

/-- Elements as they are read in a given world: a row of one's own may have elements whose rows are older. -/
def kdAt {α : Type} (d : Kd α) (w0 : World) : Kd α where
  sz := d.sz
  E := []
  K := fun _ => d.K w0
  M := fun _ _ _ => d.K w0
  K_len := fun h => d.K_len h
  K_one := fun h => d.K_one h
  K_below := fun _ h => h
  K_of_M := fun h => h
  M_mono := fun _ h => h
  M_bound := fun h => h
  M_move := fun _ h => h
  M_lower := fun _ h => h
theorem kdAt_C {α : Type} {d : Kd α} {w0 w : World} {A : Option Addr} {n : Nat} {xs : List α} (h : (kdAt d w0).C w A n xs) (hb : Below w0.heap.size w0 w) : d.C w A n xs :=
  ReadsRow.imp_ h (Below.refl _ _) (fun _ _ hp => d.K_below hb hp)
theorem C_kdAt {α : Type} {d : Kd α} {w0 w : World} {A : Option Addr} {n : Nat} {xs : List α} (h : d.C w0 A n xs) (hb : Below w0.heap.size w0 w) : (kdAt d w0).C w A n xs :=
  ReadsRow.imp_ h hb (fun _ _ hp => hp)
abbrev kr (w0 : World) : Kd S57 := kdAt k57 w0
theorem clone_nil (c0 : Nat) (w : World) : Calls Try.prog 29 #[.slice none 0 c0] w fun e w' => e = .returned (.slice none 0 0) ∧ w = w' := by
  have hnil := fun W => Lib.run_eql_slice_nil (P := Try.prog) W 22 57 none 0 c0 0 0 Try.underlying22
  go_enter Try.func29, Try.ntmps29
  go_wp2
  go_ret
  exact ⟨rfl, rfl⟩
set_option maxHeartbeats 1000000 in
set_option maxRecDepth 100000 in
theorem clone_calls (A0 : Option Addr) (c0 : Nat) (l0 : List S57) (w0 w : World) (hw : Below w0.heap.size w0 w) (hr0 : Kd.C (kr w0) w A0 l0.length l0) (hc0 : l0.length ≤ c0) (hlim : l0.length ≤ 1000000) :
    Calls Try.prog 29 #[.slice A0 l0.length c0] w fun e w' => ∃ v, e = .returned v ∧ Kd.R (kr w0) 57 w' w.heap.size (fun _ => True) v l0 ∧ Below w.heap.size w w' := by
  rcases A0 with _ | ad
  · have h0 : l0 = [] := by
      rcases Nat.eq_zero_or_pos l0.length with h | h
      · exact List.eq_nil_of_length_eq_zero h
      · obtain ⟨ad, h', _⟩ := hr0.2.2 h
        cases h'
    subst h0
    refine (clone_nil c0 w).mono ?_
    rintro e w' ⟨rfl, rfl⟩
    exact ⟨_, rfl, Kd.R_nil _ _ _ _ _, Below.refl _ _⟩
  · have hnil := fun W => Lib.run_eql_slice_nil (P := Try.prog) W 22 57 (some ad) l0.length c0 0 0 Try.underlying22
    have HB := Aside0.mk (Below.refl w.heap.size w)
    go_enter Try.func29, Try.ntmps29
    go_wp2_with (first | ((with_reducible refine gate_dst (N := 5) rfl ?_); refine Kd.R_lit (kr w0) _ 57 ?hg (N := 5) ?hd (xs := ([] : List S57)) (inner := []) (ok := fun _ => True) (okp := fun _ => True) ?hr ?hp (fun _ hk => hk) trivial (Below.refl _ _) (Nat.le_refl _) (by simp) ?_; (case hd => rfl); (case hg => rfl); (case hr => first | (go_simp; done) | (go_simp; rfl)); (case hp => exact (Reps.none _ _)); intro v1 w1 ho1 hb1 hg1 hnew1; clear hg1 hnew1; replace HB := Aside0.mk hb1; replace ho1 := Aside0.mk ho1; clear hb1) | ((with_reducible refine gate_builtin (b := .append) (xs := #[.tmp 5, .tmp 6]) rfl ?_); at_builtin; refine Kd.R_append_rows (kr w0) (w0 := w) w.heap.size rfl (.tmp 5) (.tmp 6) 22 57 (.agg #[(.int .u64 0), (.slice none 0 0)]) 32 rfl Try.underlying22 info57 rfl (by show 0 < 2; omega) (by omega) _ [] l0 _ _ _ (fun _ => True) (fun _ => False) rfl rfl ho1.out (Kd.C_below hr0 HB.out) (fun _ _ h => h) (fun _ h => h.elim) (fun _ _ => trivial) HB.out HB.out.size (by simp only [List.length_nil]; omega) ?_; intro v2 w2 ho hb hg hat; clear hg hat; replace ho := Aside0.mk ho; replace HB := Aside0.mk hb; clear hb))
    trace_state
    go_ret
    exact ⟨_, rfl, ho.out, HB.out⟩
end Go.Proofs.Ytbmfcikjhnnnbaa.Q
namespace Go.Proofs.Ytbmfcikjhnnnbaa.Q
open Go.RowKit Go.Proofs.YtbmfcikjhnnnbaaW.PrintWords Go.Proofs.YtbmfcikjhnnnbaaW.PrintLast Go.Proofs.YtbmfcikjhnnnbaaW.PrintMore
set_option linter.unusedVariables false
set_option linter.unusedSimpArgs false

theorem setCells_box {g : Nat} {e : TypeId} (W : World) (cur : Array Value) (seg : List Value) (hh : W.heap[g]? = some (.cells cur e (0, 0))) (hl : cur.size = seg.length) :
    (W.setCells g 0 seg).heap[g]? = some (.cells seg.toArray e (0, 0)) ∧ W.grownBy (W.setCells g 0 seg) (some g) ∧ (W.setCells g 0 seg).heap.size = W.heap.size := by
  obtain ⟨cur', h3, h4, h5⟩ := setCells_row seg 0 W cur hh (by omega)
  obtain ⟨s1, s2, s3, s4⟩ := setCells_same g seg 0 W
  refine ⟨?_, ⟨s1, s2, s3, by rw [s4]; exact Nat.le_refl _, fun k _ hk => setCells_far seg 0 k (fun he => hk (by rw [he]))⟩, s4⟩
  rw [h3]
  congr 2
  apply Array.ext'
  rw [h5, List.take_zero, List.nil_append, List.drop_eq_nil_of_le (by rw [Array.length_toList]; omega), List.append_nil]
theorem wpList_storeBox {P : Program} {ops : Array Oper} {rest : List Oper} {o : Oper} {a : Act} {Q : Exit → Act → World → Prop} {W : World} (hN : o.dst = none) (hgd : o.guard = none) (t : TypeId) (p x : Operand) (ho : o.op = .store t p x) {g : Nat} {e : TypeId} {cur : Array Value} (u : Value) (seg : List Value)
    (haddr : a.eval p = .pointer (some ⟨g, 0, none⟩)) (hx : a.eval x = u) (hu : u.cells.toList = seg) (ht : (P.info? t).map (·.size) = some seg.length) (h1 : ∀ q ∈ seg, q.oneCell' = true)
    (hh : W.heap[g]? = some (.cells cur e (0, 0))) (hl : cur.size = seg.length)
    (h : ∀ W', W'.heap[g]? = some (.cells seg.toArray e (0, 0)) → W.grownBy W' (some g) → W'.heap.size = W.heap.size → wpList P ops Q rest a W') : wpList P ops Q (o :: rest) a W := by
  obtain ⟨b1, b2, b3⟩ := setCells_box W cur seg hh hl
  refine wpList_plain hgd fun K hK => ?_
  have hrun := run_store_run (P := P) (w := W) (g := g) (o := 0) t u seg hh hu ht (by omega) h1
  unfold Oper.wp execOp
  simp only [ho, haddr, hx, Sem.run_bind, Sem.run_pure, Result.andThen_ok, hrun]
  show K (a.put o.dst undef) _
  rw [hN]
  exact hK _ _ (h _ b1 b2 b3)
/-- The same within a region that draws its order. -/
theorem skip_storeBox {P : Program} {ops : Array Oper} {Q : Exit → Act → World → Prop} {oi : Oper} {a : Act} {W : World} {K : Act → World → Prop} (hw : Region.wanted oi (yielded ops a.tmps) = true) (hN : oi.dst = none) (t : TypeId) (p x : Operand) (ho : oi.op = .store t p x) {g : Nat} {e : TypeId} {cur : Array Value} (u : Value) (seg : List Value)
    (haddr : a.eval p = .pointer (some ⟨g, 0, none⟩)) (hx : a.eval x = u) (hu : u.cells.toList = seg) (ht : (P.info? t).map (·.size) = some seg.length) (h1 : ∀ q ∈ seg, q.oneCell' = true)
    (hh : W.heap[g]? = some (.cells cur e (0, 0))) (hl : cur.size = seg.length)
    (h : ∀ W', W'.heap[g]? = some (.cells seg.toArray e (0, 0)) → W.grownBy W' (some g) → W'.heap.size = W.heap.size → K a W') :
    if Region.wanted oi (yielded ops a.tmps) = true then Oper.wp P oi a W K Q else K (a.put none undef) W := by
  obtain ⟨b1, b2, b3⟩ := setCells_box W cur seg hh hl
  refine skip_ hw hN ?_ (h _ b1 b2 b3)
  have hrun := run_store_run (P := P) (w := W) (g := g) (o := 0) t u seg hh hu ht (by omega) h1
  unfold execOp
  simp only [ho, haddr, hx, Sem.run_bind, Sem.run_pure, Result.andThen_ok, hrun]
end Go.Proofs.Ytbmfcikjhnnnbaa.Q
namespace Go.Proofs.Ytbmfcikjhnnnbaa.Q
open Go.RowKit Go.Proofs.YtbmfcikjhnnnbaaW.PrintWords Go.Proofs.YtbmfcikjhnnnbaaW.PrintLast Go.Proofs.YtbmfcikjhnnnbaaW.PrintMore
set_option linter.unusedVariables false
set_option linter.unusedSimpArgs false

theorem setCells_field {g j : Nat} {e : TypeId} (W : World) (cur cur' : Array Value) (u : Value) (hh : W.heap[g]? = some (.cells cur e (0, 0))) (hl : j + 1 ≤ cur.size) (hc : (cur.toList.take j ++ [u] ++ cur.toList.drop (j + 1)).toArray = cur') :
    (W.setCells g j [u]).heap[g]? = some (.cells cur' e (0, 0)) ∧ W.grownBy (W.setCells g j [u]) (some g) ∧ (W.setCells g j [u]).heap.size = W.heap.size := by
  obtain ⟨cur2, h3, h4, h5⟩ := setCells_row [u] j W cur hh (by simpa using hl)
  obtain ⟨s1, s2, s3, s4⟩ := setCells_same g [u] j W
  refine ⟨?_, ⟨s1, s2, s3, by rw [s4]; exact Nat.le_refl _, fun k _ hk => setCells_far [u] j k (fun he => hk (by rw [he]))⟩, s4⟩
  rw [h3, ← hc]
  congr 2
  apply Array.ext'
  rw [h5]
  rfl
/-- A value of one cell, stored into a field of a box. -/
theorem wpList_storeField {P : Program} {ops : Array Oper} {rest : List Oper} {o : Oper} {a : Act} {Q : Exit → Act → World → Prop} {W : World} (hN : o.dst = none) (hgd : o.guard = none) (t : TypeId) (p x : Operand) (ho : o.op = .store t p x) {g : Nat} (j : Nat) {e : TypeId} {cur : Array Value} (u : Value) (cur' : Array Value)
    (haddr : a.eval p = .pointer (some ⟨g, j, none⟩)) (hx : a.eval x = u) (hu : u.cells.toList = [u]) (ht : (P.info? t).map (·.size) = some 1) (h1 : u.oneCell' = true)
    (hh : W.heap[g]? = some (.cells cur e (0, 0))) (hl : j + 1 ≤ cur.size) (hc : (cur.toList.take j ++ [u] ++ cur.toList.drop (j + 1)).toArray = cur')
    (h : ∀ W', W'.heap[g]? = some (.cells cur' e (0, 0)) → W.grownBy W' (some g) → W'.heap.size = W.heap.size → wpList P ops Q rest a W') : wpList P ops Q (o :: rest) a W := by
  obtain ⟨b1, b2, b3⟩ := setCells_field W cur cur' u hh hl hc
  refine wpList_plain hgd fun K hK => ?_
  have hrun := run_store_run (P := P) (w := W) (g := g) (o := j) t u [u] hh hu ht (by simpa using hl) (by simpa using h1)
  unfold Oper.wp execOp
  simp only [ho, haddr, hx, Sem.run_bind, Sem.run_pure, Result.andThen_ok, hrun]
  show K (a.put o.dst undef) _
  rw [hN]
  exact hK _ _ (h _ b1 b2 b3)
/-- What is read in the one world is read so in the other. -/
def Sees (w0 w : World) : Prop := ∀ p v, w0.cell? p = some v → w.cell? p = some v
theorem sees_below {w W : World} (hb : Below w.heap.size w W) : Sees w W := fun _ _ h => pw_cell_below hb h
theorem sees_C54 {w0 w : World} {A : Option Addr} {n : Nat} {xs : List S54} (h : Sees w0 w) (hC : k54.C w0 A n xs) : k54.C w A n xs :=
  ⟨hC.1, hC.2.1, fun hn => by
    obtain ⟨ad, e, hc⟩ := hC.2.2 hn
    refine ⟨ad, e, fun j p hj => ?_⟩
    obtain ⟨c, hs, hr, hcell⟩ := hc j p hj
    obtain rfl := k54_open hr
    exact ⟨_, hs, k54_mk w p, fun i u hu => h _ _ (hcell i u hu)⟩⟩
theorem sees_K57 {w0 w : World} {x : S57} {cs : List Value} (h : Sees w0 w) (hK : k57.K w0 x cs) : k57.K w x cs := by
  obtain ⟨A, c, rfl, hl, hC⟩ := k57_open hK
  exact k57_mk w x hl (sees_C54 h hC)
theorem sees_kr {w0 w : World} {A : Option Addr} {n : Nat} {xs : List S57} (h : Sees w0 w) (hC : (kr w0).C w A n xs) : k57.C w A n xs := ReadsRow.imp_ hC (Below.refl _ _) (fun _ _ hp => sees_K57 h hp)
theorem kr_sees {w w0 W : World} {A : Option Addr} {n : Nat} {xs : List S57} (h : Sees w w0) (hC : (kr w).C W A n xs) : (kr w0).C W A n xs := ReadsRow.imp_ hC (Below.refl _ _) (fun _ _ hp => sees_K57 h hp)
/-- The world without two of its blocks. -/
def blank (w : World) (g g' : Nat) : World := { w with heap := (w.heap.setIfInBounds g (.cells #[] 25 (0, 0))).setIfInBounds g' (.cells #[] 25 (0, 0)) }
theorem blank_size (w : World) (g g' : Nat) : (blank w g g').heap.size = w.heap.size := by simp [blank]
theorem blank_ne {w : World} {g g' k : Nat} (h : k ≠ g) (h' : k ≠ g') : (blank w g g').heap[k]? = w.heap[k]? := by
  simp only [blank]
  rw [Array.getElem?_setIfInBounds_ne (Ne.symm h'), Array.getElem?_setIfInBounds_ne (Ne.symm h)]
theorem blank_cell {w : World} {g g' : Nat} {p : Addr} {v : Value} (h : (blank w g g').cell? p = some v) : p.block ≠ g ∧ p.block ≠ g' ∧ w.cell? p = some v := by
  have hn : ∀ q : Nat, p.block = q → (blank w g g').heap[q]? = some (.cells #[] 25 (0, 0)) ∨ (blank w g g').heap[q]? = none → False := by
    intro q hq hc
    subst hq
    unfold World.cell? at h
    rcases hc with hc | hc
    · rw [hc] at h
      simp at h
    · rw [hc] at h
      cases h
  have h1 : p.block ≠ g' := fun e => hn _ rfl (by
    rw [e]
    simp only [blank, Array.getElem?_setIfInBounds_self]
    split
    · exact .inl rfl
    · exact .inr rfl)
  have h0 : p.block ≠ g := fun e => hn _ rfl (by
    simp only [blank]
    rw [Array.getElem?_setIfInBounds_ne (Ne.symm h1), e, Array.getElem?_setIfInBounds_self]
    split
    · exact .inl rfl
    · exact .inr rfl)
  refine ⟨h0, h1, ?_⟩
  unfold World.cell? at h ⊢
  rwa [blank_ne h0 h1] at h
/-- What stays when two blocks are written and new ones are made. -/
def Keep2 (w W : World) (g g' : Nat) : Prop := w.heap.size ≤ W.heap.size ∧ ∀ k, k < w.heap.size → k ≠ g → k ≠ g' → W.heap[k]? = w.heap[k]?
theorem keep2_refl (w : World) (g g' : Nat) : Keep2 w w g g' := ⟨Nat.le_refl _, fun _ _ _ _ => rfl⟩
theorem keep2_below {w W W' : World} {g g' b : Nat} (h : Keep2 w W g g') (hb : Below b W W') (hs : w.heap.size ≤ b) : Keep2 w W' g g' :=
  ⟨Nat.le_trans h.1 hb.size, fun k hk h0 h1 => (hb.block k (Nat.lt_of_lt_of_le hk hs)).trans (h.2 k hk h0 h1)⟩
theorem keep2_grown {w W W' : World} {g g' q : Nat} (h : Keep2 w W g g') (hg : W.grownBy W' (some q)) (hq : q = g ∨ q = g' ∨ w.heap.size ≤ q) : Keep2 w W' g g' :=
  ⟨Nat.le_trans h.1 hg.size, fun k hk h0 h1 => (hg.block k (Nat.lt_of_lt_of_le hk h.1) (fun e => by
    injection e with e
    subst e
    rcases hq with h2 | h2 | h2
    · exact h0 h2
    · exact h1 h2
    · exact absurd hk (by omega))).trans (h.2 k hk h0 h1)⟩
theorem keep2_weak {w W : World} {g : Nat} (h : Keep2 w W g g) (g' : Nat) : Keep2 w W g g' := ⟨h.1, fun k hk h0 _ => h.2 k hk h0 h0⟩
theorem sees_blank {w W : World} {g g' : Nat} (h : Keep2 w W g g') : Sees (blank w g g') W := fun p v hp => by
  obtain ⟨h0, h1, hc⟩ := blank_cell hp
  have hlt : p.block < w.heap.size := by
    rcases Nat.lt_or_ge p.block w.heap.size with hl | hl
    · exact hl
    · unfold World.cell? at hc
      rw [Array.getElem?_eq_none (by omega)] at hc
      cases hc
  unfold World.cell? at hc ⊢
  rwa [h.2 _ hlt h0 h1]
theorem blank_sees {w W : World} {g g' : Nat} (hb : Below w.heap.size w W) (hg : w.heap.size ≤ g) (hg' : w.heap.size ≤ g') : Sees w (blank W g g') := fun p v hp => by
  have hlt : p.block < w.heap.size := by
    rcases Nat.lt_or_ge p.block w.heap.size with hl | hl
    · exact hl
    · unfold World.cell? at hp
      rw [Array.getElem?_eq_none (by omega)] at hp
      cases hp
  unfold World.cell? at hp ⊢
  rwa [blank_ne (by omega) (by omega), hb.block _ hlt]
/-- A box for the world without two blocks: a user's mails, of a row of one's own. -/
theorem blank_K57 {W : World} {g g' base : Nat} {A : Option Addr} {n c : Nat} {u : Int} {ms : List S54} (hR : Kd.R k54 54 W base (fun k => some k = (Value.slice A n c).ownBlock) (.slice A n c) ms) (hg : g < base) (hg' : g' < base) :
    k57.K (blank W g g') { f0 := u, f1 := ms } [.int .u64 u, .slice A n c] := by
  have h2 : Kd.R k54 54 (blank W g g') base (fun k => some k = (Value.slice A n c).ownBlock) (.slice A n c) ms := Kd.R_step hR (fun k hk _ => by
    have := Kd.R_base hR k hk.symm
    exact blank_ne (by omega) (by omega))
  obtain ⟨hn, hc, hC⟩ := Kd.R_reads' h2
  subst hn
  exact k57_mk (blank W g g') { f0 := u, f1 := ms } hc hC
set_option maxHeartbeats 1000000 in
set_option maxRecDepth 100000 in
theorem clone_any (A0 : Option Addr) (c0 : Nat) (l0 : List S57) (w0 w : World) (hr0 : Kd.C (kr w0) w A0 l0.length l0) (hc0 : l0.length ≤ c0) (hlim : l0.length ≤ 1000000) :
    Calls Try.prog 29 #[.slice A0 l0.length c0] w fun e w' => ∃ v, e = .returned v ∧ Kd.R (kr w0) 57 w' w.heap.size (fun _ => True) v l0 ∧ Below w.heap.size w w' := by
  rcases A0 with _ | ad
  · have h0 : l0 = [] := by
      rcases Nat.eq_zero_or_pos l0.length with h | h
      · exact List.eq_nil_of_length_eq_zero h
      · obtain ⟨ad, h', _⟩ := hr0.2.2 h
        cases h'
    subst h0
    refine (clone_nil c0 w).mono ?_
    rintro e w' ⟨rfl, rfl⟩
    exact ⟨_, rfl, Kd.R_nil _ _ _ _ _, Below.refl _ _⟩
  · have hnil := fun W => Lib.run_eql_slice_nil (P := Try.prog) W 22 57 (some ad) l0.length c0 0 0 Try.underlying22
    have HB := Aside0.mk (Below.refl w.heap.size w)
    go_enter Try.func29, Try.ntmps29
    go_wp2_with (first | ((with_reducible refine gate_dst (N := 5) rfl ?_); refine Kd.R_lit (kr w0) _ 57 ?hg (N := 5) ?hd (xs := ([] : List S57)) (inner := []) (ok := fun _ => True) (okp := fun _ => True) ?hr ?hp (fun _ hk => hk) trivial (Below.refl _ _) (Nat.le_refl _) (by simp) ?_; (case hd => rfl); (case hg => rfl); (case hr => first | (go_simp; done) | (go_simp; rfl)); (case hp => exact (Reps.none _ _)); intro v1 w1 ho1 hb1 hg1 hnew1; clear hg1 hnew1; replace HB := Aside0.mk hb1; replace ho1 := Aside0.mk ho1; clear hb1) | ((with_reducible refine gate_builtin (b := .append) (xs := #[.tmp 5, .tmp 6]) rfl ?_); at_builtin; refine Kd.R_append_rows (kr w0) (w0 := w) w.heap.size rfl (.tmp 5) (.tmp 6) 22 57 (.agg #[(.int .u64 0), (.slice none 0 0)]) 32 rfl Try.underlying22 info57 rfl (by show 0 < 2; omega) (by omega) _ [] l0 _ _ _ (fun _ => True) (fun _ => False) rfl rfl ho1.out (Kd.C_below hr0 HB.out) (fun _ _ h => h) (fun _ h => h.elim) (fun _ _ => trivial) HB.out HB.out.size (by simp only [List.length_nil]; omega) ?_; intro v2 w2 ho hb hg hat; clear hg hat; replace ho := Aside0.mk ho; replace HB := Aside0.mk hb; clear hb))
    go_ret
    exact ⟨_, rfl, ho.out, HB.out⟩
end Go.Proofs.Ytbmfcikjhnnnbaa.Q
