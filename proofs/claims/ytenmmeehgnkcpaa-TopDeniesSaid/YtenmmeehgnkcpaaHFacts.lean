/- deduce's facts: any, point, the six questions of told, some, told.
   Conditions: the facts are read as a list of terms and one of as many Bools; the places that are asked lie in the list. -/
import Derived.Test.YtenmmeehgnkcpaaHAdd
namespace Go.Proofs.Ytenmmeehgnkcpaa.Q
open Go.RowKit Go.Proofs.YtenmmeehgnkcpaaW.PrintWords Go.Proofs.YtenmmeehgnkcpaaW.PrintLast Go.Proofs.YtenmmeehgnkcpaaW.PrintMore
set_option linter.unusedVariables false
set_option linter.unusedSimpArgs false

/-! ### HFacts -/
def isAt (is : List Bool) (i : Int) : Bool := rdOf false is i
abbrev fv (A : Option Addr) (n c : Nat) (B : Option Addr) (m d : Nat) : Value := .agg #[.slice A n c, .slice B m d]
/-- Facts in a world: the terms, and which are known. -/
structure FS (A : Option Addr) (c : Nat) (l : List S28) (B : Option Addr) (d : Nat) (is : List Bool) (W : World) : Prop where
  hC : k28.C W A l.length l
  hD : Kd.C Kd.bool W B l.length is
  hn : is.length = l.length
  hc : l.length ≤ c
  hd : l.length ≤ d
  hl : l.length ≤ 1000000
theorem FS.below {A : Option Addr} {c : Nat} {l : List S28} {B : Option Addr} {d : Nat} {is : List Bool} {W W' : World} (h : FS A c l B d is W) (hb : Below W.heap.size W W') : FS A c l B d is W' := ⟨Kd.C_below h.hC hb, Kd.C_below h.hD hb, h.hn, h.hc, h.hd, h.hl⟩
theorem FS.at_ {A : Option Addr} {c : Nat} {l : List S28} {B : Option Addr} {d : Nat} {is : List Bool} {W : World} (h : FS A c l B d is W) (i : Int) (h0 : 0 ≤ i) (h1 : i < l.length) : ∃ ad, B = some ad ∧ W.cell? (ad.add i.toNat) = some (.bool (isAt is i)) :=
  Kd.at_bool h.hD i h0 h1
def anyF (l : List S28) (is : List Bool) (so : S28 → Bool) : Bool := (List.range l.length).any fun j => isAt is (j : Int) && so (rd_T28 l (j : Int))
theorem anyF_yes {l : List S28} {is : List Bool} {so : S28 → Bool} (j : Nat) (hj : j < l.length) (h : (isAt is (j : Int) && so (rd_T28 l (j : Int))) = true) : anyF l is so = true := List.any_eq_true.2 ⟨j, List.mem_range.2 hj, h⟩
theorem anyF_no {l : List S28} {is : List Bool} {so : S28 → Bool} (h : ∀ j : Nat, j < l.length → (isAt is (j : Int) && so (rd_T28 l (j : Int))) = false) : anyF l is so = false := by
  unfold anyF
  rw [List.any_eq_false]
  intro j hj
  rw [h j (List.mem_range.1 hj)]
  decide
set_option maxHeartbeats 2000000 in
set_option maxRecDepth 100000 in
theorem any_calls (F : Nat) (cs : Array Value) (so : S28 → Bool) (A : Option Addr) (c : Nat) (l : List S28) (B : Option Addr) (d : Nat) (is : List Bool) (w : World) (hF : FS A c l B d is w) (hEnt : ∀ args W, (callFunc F args).run Try.prog W = .ok (.enter F args) W)
    (hso : ∀ (j : Nat), j < l.length → ∀ W, Below w.heap.size w W → Calls Try.prog F (#[tv (rd_T28 l (j : Int))] ++ cs) W fun e w' => e = .returned (.bool (so (rd_T28 l (j : Int)))) ∧ Below W.heap.size W w') :
    Calls Try.prog 79 #[fv A l.length c B l.length d, .func (.func F) #[] cs] w fun e w' => e = .returned (.bool (anyF l is so)) ∧ Below w.heap.size w w' := by
  obtain ⟨w1, hw1⟩ : ∃ w1, w.alloc (.cells #[.slice A l.length c, .slice B l.length d] 80 (0, 0)) = w1 := ⟨_, rfl⟩
  have hb1 : Below w.heap.size w w1 := by rw [← hw1]; exact below_alloc (Below.refl _ _) _
  have hK1 : w1.heap[w.heap.size]? = some (.cells #[.slice A l.length c, .slice B l.length d] 80 (0, 0)) := by rw [← hw1]; exact heap_alloc_new _ _
  have hF1 := Aside0.mk (hF.below hb1)
  have hlen := hF.hl
  obtain ⟨z0, z1⟩ := box2 hK1
  replace hso := Lib.hid hso
  clear hF
  go_enter Try.func79, Try.ntmps79
  go_wp2
  go_loopw [10] (fun v wr => ∃ i : Nat, i ≤ l.length ∧ v = .int .i64 (i : Int) ∧ (∀ j : Nat, j < i → (isAt is (j : Int) && so (rd_T28 l (j : Int))) = false) ∧ Below w1.heap.size w1 wr) (fun v _ => l.length - (intOf v).toNat)
  case atStart => exact ⟨0, by omega, rfl, fun j h => absurd h (Nat.not_lt_zero j), Below.refl _ _⟩
  case round =>
    obtain ⟨i, hi, rfl, hno, hB⟩ := hrel
    have hBw := Aside0.mk (below_step hb1 hB)
    by_cases hlt : (i : Int) < l.length
    · have hFr := hF1.out.below hB
      obtain ⟨ad, eA, q0, q1, q2, q3⟩ := at_T28 hFr.hC (i : Int) (by omega) hlt
      obtain ⟨bd, eB, p0⟩ := hFr.at_ (i : Int) (by omega) hlt
      subst eA eB
      have hyes := anyF_yes (l := l) (is := is) (so := so) i (by omega)
      have hnext : (isAt is (i : Int) && so (rd_T28 l (i : Int))) = false → ∀ j : Nat, j < i + 1 → (isAt is (j : Int) && so (rd_T28 l (j : Int))) = false := fun h j hj => by
        by_cases e : j = i
        · subst e; exact h
        · exact hno j (by omega)
      have hcall := hso.out i (by omega)
      generalize rd_T28 l (i : Int) = t at q0 q1 q2 q3 hyes hnext hcall
      rw [Int.toNat_natCast] at q0 q1 q2 q3 p0
      obtain ⟨b, hb⟩ : ∃ b, isAt is (i : Int) = b := ⟨_, rfl⟩
      rw [hb] at p0 hyes hnext
      obtain ⟨w2, hw2⟩ : ∃ w2, wr.alloc (.cells #[.int .i64 0, .int .u64 0, .int .i64 0, .int .i64 0] 28 (0, 0)) = w2 := ⟨_, rfl⟩
      have hb2 : Below wr.heap.size wr w2 := by rw [← hw2]; exact below_alloc (Below.refl _ _) _
      have hK2 : w2.heap[wr.heap.size]? = some (.cells #[.int .i64 0, .int .u64 0, .int .i64 0, .int .i64 0] 28 (0, 0)) := by rw [← hw2]; exact heap_alloc_new _ _
      replace hyes := Aside0.mk hyes
      replace hnext := Aside0.mk hnext
      replace hcall := Lib.hid hcall
      have hp0 := Lib.hid (show ∀ W, Below wr.heap.size wr W → W.cell? (bd.add i) = some (.bool b) from fun W hW => (Below.cell (p := bd.add i) hW (block_lt_of_cell p0)).trans p0)
      have hz := Lib.hid (show ∀ W, Below wr.heap.size wr W → W.cell? ⟨w.heap.size, 1, none⟩ = some (.slice (some bd) l.length d) from fun W hW => (box2 (((below_step hB hW).block _ (blk_lt hK1)).trans hK1)).2)
      clear p0 hno hb z0 z1
      cases b with
      | false =>
        have hs := Aside0.mk (hnext.out rfl)
        go_wp2_with ((with_reducible refine gate_store (t := 28) (p := 6) rfl ?_); go_loud (refine wpList_storeBox rfl rfl 28 (.tmp 6) (.tmp 14) rfl (tv t) [.int .i64 t.f0, .int .u64 t.f1, .int .i64 t.f2, .int .i64 t.f3] rfl rfl rfl (by kernel_rfl) (by simp [Value.oneCell']) hK2 rfl ?_); intro w3 hK3 hg3 hs3; have hb3 := Aside0.mk (hb2.grown hg3 hb2.size (fun k hk => by cases hk; exact Nat.le_refl _)); clear hs3 hw2 hb2 hK2 hg3 q0 q1 q2 q3; have p0 := hp0.out _ hb3.out; have z1 := hz.out _ hb3.out; obtain ⟨x0, x1, x2, x3⟩ := box4 hK3)
        go_roundw
        case rel => exact ⟨i + 1, by omega, by go_num, hs.out, below_step hB hb3.out⟩
        case measure => simp [intOf]; omega
      | true =>
        go_wp2_with ((with_reducible refine gate_store (t := 28) (p := 6) rfl ?_); go_loud (refine wpList_storeBox rfl rfl 28 (.tmp 6) (.tmp 14) rfl (tv t) [.int .i64 t.f0, .int .u64 t.f1, .int .i64 t.f2, .int .i64 t.f3] rfl rfl rfl (by kernel_rfl) (by simp [Value.oneCell']) hK2 rfl ?_); intro w3 hK3 hg3 hs3; have hb3 := Aside0.mk (hb2.grown hg3 hb2.size (fun k hk => by cases hk; exact Nat.le_refl _)); clear hs3 hw2 hb2 hK2 hg3 q0 q1 q2 q3; have p0 := hp0.out _ hb3.out; have z1 := hz.out _ hb3.out; obtain ⟨x0, x1, x2, x3⟩ := box4 hK3)
        refine (hcall.out w3 (below_step hBw.out hb3.out)).mono ?_; rintro e_ w4 ⟨rfl, hb4⟩
        have hB4 := Aside0.mk (below_step hb3.out hb4)
        clear p0 z1 x0 x1 x2 x3 hK3
        cases hs0 : so t with
        | true =>
          have hf := Lib.hid (hyes.out (by rw [hs0]; rfl))
          go_wp2
          go_ret
          exact ⟨by rw [hf.out]; rfl, below_step hBw.out hB4.out⟩
        | false =>
          have hs := Aside0.mk (hnext.out (by rw [hs0]; rfl))
          go_wp2
          go_roundw
          case rel => exact ⟨i + 1, by omega, by go_num, hs.out, below_step hB hB4.out⟩
          case measure => simp [intOf]; omega
    · obtain rfl : i = l.length := by omega
      have hf := Lib.hid (anyF_no hno)
      go_wp2
      go_ret
      exact ⟨by rw [hf.out]; rfl, hBw.out⟩

/-! ### HTold -/
theorem enter73 (args : Array Value) (W : World) : (callFunc 73 args).run Try.prog W = .ok (.enter 73 args) W := by
  have h := Try.func73
  simp [callFunc, h, Try.f73, Sem.run_bind]
theorem enter74 (args : Array Value) (W : World) : (callFunc 74 args).run Try.prog W = .ok (.enter 74 args) W := by
  have h := Try.func74
  simp [callFunc, h, Try.f74, Sem.run_bind]
theorem enter75 (args : Array Value) (W : World) : (callFunc 75 args).run Try.prog W = .ok (.enter 75 args) W := by
  have h := Try.func75
  simp [callFunc, h, Try.f75, Sem.run_bind]
theorem enter76 (args : Array Value) (W : World) : (callFunc 76 args).run Try.prog W = .ok (.enter 76 args) W := by
  have h := Try.func76
  simp [callFunc, h, Try.f76, Sem.run_bind]
theorem enter78 (args : Array Value) (W : World) : (callFunc 78 args).run Try.prog W = .ok (.enter 78 args) W := by
  have h := Try.func78
  simp [callFunc, h, Try.f78, Sem.run_bind]
theorem enter81 (args : Array Value) (W : World) : (callFunc 81 args).run Try.prog W = .ok (.enter 81 args) W := by
  have h := Try.func81
  simp [callFunc, h, Try.f81, Sem.run_bind]
theorem enter80 (args : Array Value) (W : World) : (callFunc 80 args).run Try.prog W = .ok (.enter 80 args) W := by
  have h := Try.func80
  simp [callFunc, h, Try.f80, Sem.run_bind]
theorem enter82 (args : Array Value) (W : World) : (callFunc 82 args).run Try.prog W = .ok (.enter 82 args) W := by
  have h := Try.func82
  simp [callFunc, h, Try.f82, Sem.run_bind]
theorem enter86 (args : Array Value) (W : World) : (callFunc 86 args).run Try.prog W = .ok (.enter 86 args) W := by
  have h := Try.func86
  simp [callFunc, h, Try.f86, Sem.run_bind]
section
variable {A : Option Addr} {c : Nat} {l : List S28} {B : Option Addr} {d : Nat} {is : List Bool}
theorem told1_calls (gf gi : Nat) (i : Int) (w : World) (hF : FS A c l B d is w) (hK : w.heap[gf]? = some (.cells #[.slice A l.length c, .slice B l.length d] 80 (0, 0))) (hI : w.heap[gi]? = some (.cells #[.int .i64 i] 3 (0, 0))) (h0 : 0 ≤ i) (h1 : i < l.length) :
    Calls Try.prog 73 #[.pointer (some ⟨gf, 0, none⟩), .pointer (some ⟨gi, 0, none⟩)] w fun e w' => e = .returned (.bool (isAt is i)) ∧ Below w.heap.size w w' := by
  obtain ⟨_, z1⟩ := box2 hK
  have y0 := box1 hI
  obtain ⟨ad, e, p0⟩ := hF.at_ i h0 h1
  subst e
  have hl := hF.hl
  clear hK hI hF
  go_enter Try.func73, Try.ntmps73
  go_wp2
  go_ret
  exact ⟨rfl, Below.refl _ _⟩
def q2B (is : List Bool) (t : S28) : Bool := unaryB t.f0 && isAt is t.f2
theorem told2_calls (gt gf : Nat) (t : S28) (w : World) (hF : FS A c l B d is w) (hK : w.heap[gf]? = some (.cells #[.slice A l.length c, .slice B l.length d] 80 (0, 0))) (hT : w.heap[gt]? = some (.cells #[.int .i64 t.f0, .int .u64 t.f1, .int .i64 t.f2, .int .i64 t.f3] 28 (0, 0)))
    (hr : unaryB t.f0 = true → 0 ≤ t.f2 ∧ t.f2 < l.length) :
    Calls Try.prog 74 #[.pointer (some ⟨gt, 0, none⟩), .pointer (some ⟨gf, 0, none⟩)] w fun e w' => e = .returned (.bool (q2B is t)) ∧ Below w.heap.size w w' := by
  obtain ⟨z0, z1⟩ := box2 hK
  obtain ⟨x0, x1, x2, x3⟩ := box4 hT
  have hl := hF.hl
  clear hK hT
  unfold q2B unaryB
  unfold unaryB at hr
  cases k1 : (t.f0 == 1) with
  | true =>
    rw [k1, Bool.true_or] at hr
    obtain ⟨h0, h1⟩ := hr rfl
    obtain ⟨ad, e, p0⟩ := hF.at_ t.f2 h0 h1
    subst e
    clear hF hr
    go_enter Try.func74, Try.ntmps74
    go_wp2
    go_ret
    exact ⟨by simp, Below.refl _ _⟩
  | false =>
    cases k3 : (t.f0 == 3) with
    | true =>
      rw [k1, k3, Bool.or_true] at hr
      obtain ⟨h0, h1⟩ := hr rfl
      obtain ⟨ad, e, p0⟩ := hF.at_ t.f2 h0 h1
      subst e
      clear hF hr
      go_enter Try.func74, Try.ntmps74
      go_wp2
      go_ret
      exact ⟨by simp, Below.refl _ _⟩
    | false =>
      clear hF hr
      go_enter Try.func74, Try.ntmps74
      go_wp2
      go_ret
      exact ⟨by simp, Below.refl _ _⟩
def q3B (is : List Bool) (t : S28) : Bool := decide (4 ≤ t.f0) && (isAt is t.f2 && isAt is t.f3)
theorem told3_calls (gt gf : Nat) (t : S28) (w : World) (hF : FS A c l B d is w) (hK : w.heap[gf]? = some (.cells #[.slice A l.length c, .slice B l.length d] 80 (0, 0))) (hT : w.heap[gt]? = some (.cells #[.int .i64 t.f0, .int .u64 t.f1, .int .i64 t.f2, .int .i64 t.f3] 28 (0, 0)))
    (hr : 4 ≤ t.f0 → (0 ≤ t.f2 ∧ t.f2 < l.length) ∧ 0 ≤ t.f3 ∧ t.f3 < l.length) :
    Calls Try.prog 75 #[.pointer (some ⟨gt, 0, none⟩), .pointer (some ⟨gf, 0, none⟩)] w fun e w' => e = .returned (.bool (q3B is t)) ∧ Below w.heap.size w w' := by
  obtain ⟨z0, z1⟩ := box2 hK
  obtain ⟨x0, x1, x2, x3⟩ := box4 hT
  have hl := hF.hl
  clear hK hT
  unfold q3B
  by_cases h4 : 4 ≤ t.f0
  · have e4 : decide (4 ≤ t.f0) = true := decide_eq_true h4
    obtain ⟨⟨h0, h1⟩, h2, h3⟩ := hr h4
    obtain ⟨ad, e, p0⟩ := hF.at_ t.f2 h0 h1
    obtain ⟨ad', e', p1⟩ := hF.at_ t.f3 h2 h3
    subst e
    cases e'
    rw [e4, Bool.true_and]
    clear hF hr
    cases b2 : isAt is t.f2 with
    | true =>
      rw [b2] at p0
      go_enter Try.func75, Try.ntmps75
      go_wp2
      go_ret
      exact ⟨by simp, Below.refl _ _⟩
    | false =>
      rw [b2] at p0
      go_enter Try.func75, Try.ntmps75
      go_wp2
      go_ret
      exact ⟨by simp, Below.refl _ _⟩
  · have e4 : decide (4 ≤ t.f0) = false := decide_eq_false h4
    rw [e4]
    clear hF hr
    go_enter Try.func75, Try.ntmps75
    go_wp2
    go_ret
    exact ⟨by simp, Below.refl _ _⟩
def soP (i : Int) (t : S28) : Bool := (t.f0 == 1) && (t.f2 == i)
theorem soP_calls (gi : Nat) (i : Int) (t : S28) (w : World) (hI : w.heap[gi]? = some (.cells #[.int .i64 i] 3 (0, 0))) :
    Calls Try.prog 86 #[tv t, .pointer (some ⟨gi, 0, none⟩)] w fun e w' => e = .returned (.bool (soP i t)) ∧ Below w.heap.size w w' := by
  obtain ⟨w1, hw1⟩ : ∃ w1, w.alloc (.cells #[.int .i64 t.f0, .int .u64 t.f1, .int .i64 t.f2, .int .i64 t.f3] 28 (0, 0)) = w1 := ⟨_, rfl⟩
  have hb1 : Below w.heap.size w w1 := by rw [← hw1]; exact below_alloc (Below.refl _ _) _
  have hK1 : w1.heap[w.heap.size]? = some (.cells #[.int .i64 t.f0, .int .u64 t.f1, .int .i64 t.f2, .int .i64 t.f3] 28 (0, 0)) := by rw [← hw1]; exact heap_alloc_new _ _
  obtain ⟨x0, x1, x2, x3⟩ := box4 hK1
  have y0 := box1 ((hb1.block _ (blk_lt hI)).trans hI)
  clear hK1 hI
  unfold soP
  cases k1 : (t.f0 == 1) with
  | true =>
    go_enter Try.func86, Try.ntmps86
    go_wp2
    go_ret
    exact ⟨by simp, hb1⟩
  | false =>
    go_enter Try.func86, Try.ntmps86
    go_wp2
    go_ret
    exact ⟨by simp, hb1⟩
def so5 (i : Int) (t : S28) : Bool := (t.f0 == 4) && ((t.f2 == i) || (t.f3 == i))
theorem so5_calls (gi : Nat) (i : Int) (t : S28) (w : World) (hI : w.heap[gi]? = some (.cells #[.int .i64 i] 3 (0, 0))) :
    Calls Try.prog 80 #[tv t, .pointer (some ⟨gi, 0, none⟩)] w fun e w' => e = .returned (.bool (so5 i t)) ∧ Below w.heap.size w w' := by
  obtain ⟨w1, hw1⟩ : ∃ w1, w.alloc (.cells #[.int .i64 t.f0, .int .u64 t.f1, .int .i64 t.f2, .int .i64 t.f3] 28 (0, 0)) = w1 := ⟨_, rfl⟩
  have hb1 : Below w.heap.size w w1 := by rw [← hw1]; exact below_alloc (Below.refl _ _) _
  have hK1 : w1.heap[w.heap.size]? = some (.cells #[.int .i64 t.f0, .int .u64 t.f1, .int .i64 t.f2, .int .i64 t.f3] 28 (0, 0)) := by rw [← hw1]; exact heap_alloc_new _ _
  obtain ⟨x0, x1, x2, x3⟩ := box4 hK1
  have y0 := box1 ((hb1.block _ (blk_lt hI)).trans hI)
  clear hK1 hI
  unfold so5
  cases k1 : (t.f0 == 4) with
  | true =>
    cases k2 : (t.f2 == i) with
    | true =>
      go_enter Try.func80, Try.ntmps80
      go_wp2
      go_ret
      exact ⟨by simp, hb1⟩
    | false =>
      go_enter Try.func80, Try.ntmps80
      go_wp2
      go_ret
      exact ⟨by simp, hb1⟩
  | false =>
    go_enter Try.func80, Try.ntmps80
    go_wp2
    go_ret
    exact ⟨by simp, hb1⟩
def so6 (is : List Bool) (i : Int) (t : S28) : Bool := ((t.f0 == 5) && (t.f3 == i)) && isAt is t.f2
theorem so6_calls (gi gf : Nat) (i : Int) (t : S28) (w : World) (hF : FS A c l B d is w) (hK : w.heap[gf]? = some (.cells #[.slice A l.length c, .slice B l.length d] 80 (0, 0))) (hI : w.heap[gi]? = some (.cells #[.int .i64 i] 3 (0, 0)))
    (hr : t.f0 = 5 → 0 ≤ t.f2 ∧ t.f2 < l.length) :
    Calls Try.prog 82 #[tv t, .pointer (some ⟨gi, 0, none⟩), .pointer (some ⟨gf, 0, none⟩)] w fun e w' => e = .returned (.bool (so6 is i t)) ∧ Below w.heap.size w w' := by
  obtain ⟨w1, hw1⟩ : ∃ w1, w.alloc (.cells #[.int .i64 t.f0, .int .u64 t.f1, .int .i64 t.f2, .int .i64 t.f3] 28 (0, 0)) = w1 := ⟨_, rfl⟩
  have hb1 : Below w.heap.size w w1 := by rw [← hw1]; exact below_alloc (Below.refl _ _) _
  have hK1 : w1.heap[w.heap.size]? = some (.cells #[.int .i64 t.f0, .int .u64 t.f1, .int .i64 t.f2, .int .i64 t.f3] 28 (0, 0)) := by rw [← hw1]; exact heap_alloc_new _ _
  obtain ⟨x0, x1, x2, x3⟩ := box4 hK1
  have y0 := box1 ((hb1.block _ (blk_lt hI)).trans hI)
  obtain ⟨z0, z1⟩ := box2 ((hb1.block _ (blk_lt hK)).trans hK)
  have hF1 := hF.below hb1
  have hl := hF.hl
  clear hK1 hI hK hF
  unfold so6
  cases k1 : (t.f0 == 5) with
  | true =>
    obtain ⟨h0, h1⟩ := hr (beq_iff_eq.1 k1)
    obtain ⟨ad, e, p0⟩ := hF1.at_ t.f2 h0 h1
    subst e
    clear hF1 hr
    cases k2 : (t.f3 == i) with
    | true =>
      go_enter Try.func82, Try.ntmps82
      go_wp2
      go_ret
      exact ⟨by simp, hb1⟩
    | false =>
      go_enter Try.func82, Try.ntmps82
      go_wp2
      go_ret
      exact ⟨by simp, hb1⟩
  | false =>
    clear hF1 hr
    go_enter Try.func82, Try.ntmps82
    go_wp2
    go_ret
    exact ⟨by simp, hb1⟩
def pointB (l : List S28) (is : List Bool) (i : Int) : Bool := isAt is i || anyF l is (soP i)
theorem point_calls (i : Int) (w : World) (hF : FS A c l B d is w) (h0 : 0 ≤ i) (h1 : i < l.length) :
    Calls Try.prog 77 #[fv A l.length c B l.length d, .int .i64 i] w fun e w' => e = .returned (.bool (pointB l is i)) ∧ Below w.heap.size w w' := by
  obtain ⟨w1, hw1⟩ : ∃ w1, w.alloc (.cells #[.slice A l.length c, .slice B l.length d] 80 (0, 0)) = w1 := ⟨_, rfl⟩
  have hb1 : Below w.heap.size w w1 := by rw [← hw1]; exact below_alloc (Below.refl _ _) _
  have hK1 : w1.heap[w.heap.size]? = some (.cells #[.slice A l.length c, .slice B l.length d] 80 (0, 0)) := by rw [← hw1]; exact heap_alloc_new _ _
  have hs1 : w1.heap.size = w.heap.size + 1 := by rw [← hw1]; simp
  obtain ⟨w2, hw2⟩ : ∃ w2, w1.alloc (.cells #[.int .i64 i] 3 (0, 0)) = w2 := ⟨_, rfl⟩
  have hb2 : Below w1.heap.size w1 w2 := by rw [← hw2]; exact below_alloc (Below.refl _ _) _
  have hK2 : w2.heap[w.heap.size + 1]? = some (.cells #[.int .i64 i] 3 (0, 0)) := by rw [← hs1, ← hw2]; exact heap_alloc_new _ _
  have hB2 := below_step hb1 hb2
  have hF2 := hF.below hB2
  obtain ⟨z0, z1⟩ := box2 ((hb2.block _ (blk_lt hK1)).trans hK1)
  have y0 := box1 hK2
  obtain ⟨ad, e, p0⟩ := hF2.at_ i h0 h1
  subst e
  have hl := hF.hl
  have hany := Aside0.mk (any_calls 86 #[.pointer (some ⟨w.heap.size + 1, 0, none⟩)] (soP i) A c l (some ad) d is w2 hF2 enter86 (fun j hj W hW => soP_calls _ i _ W ((hW.block _ (blk_lt hK2)).trans hK2)))
  clear hF hF2 hK1 hK2
  unfold pointB
  cases b : isAt is i with
  | true =>
    rw [b] at p0
    go_enter Try.func77, Try.ntmps77
    go_wp2
    go_ret
    exact ⟨by simp, hB2⟩
  | false =>
    rw [b] at p0
    go_enter Try.func77, Try.ntmps77
    go_wp2_with fail
    refine hany.out.mono ?_; rintro e_ w3 ⟨rfl, hb3⟩
    go_wp2
    go_ret
    exact ⟨by simp, below_step hB2 hb3⟩
theorem told5_calls (gf gi : Nat) (i : Int) (w : World) (hF : FS A c l B d is w) (hK : w.heap[gf]? = some (.cells #[.slice A l.length c, .slice B l.length d] 80 (0, 0))) (hI : w.heap[gi]? = some (.cells #[.int .i64 i] 3 (0, 0))) :
    Calls Try.prog 78 #[.pointer (some ⟨gf, 0, none⟩), .pointer (some ⟨gi, 0, none⟩)] w fun e w' => e = .returned (.bool (anyF l is (so5 i))) ∧ Below w.heap.size w w' := by
  obtain ⟨z0, z1⟩ := box2 hK
  have hany := Aside0.mk (any_calls 80 #[.pointer (some ⟨gi, 0, none⟩)] (so5 i) A c l B d is w hF enter80 (fun j hj W hW => so5_calls _ i _ W ((hW.block _ (blk_lt hI)).trans hI)))
  clear hK hI hF
  go_enter Try.func78, Try.ntmps78
  go_wp2_with fail
  refine hany.out.mono ?_; rintro e_ w3 ⟨rfl, hb3⟩
  go_wp2
  go_ret
  exact ⟨rfl, hb3⟩
theorem told6_calls (gf gi : Nat) (i : Int) (w : World) (hF : FS A c l B d is w) (hK : w.heap[gf]? = some (.cells #[.slice A l.length c, .slice B l.length d] 80 (0, 0))) (hI : w.heap[gi]? = some (.cells #[.int .i64 i] 3 (0, 0)))
    (hr : ∀ j : Nat, j < l.length → (rd_T28 l (j : Int)).f0 = 5 → 0 ≤ (rd_T28 l (j : Int)).f2 ∧ (rd_T28 l (j : Int)).f2 < l.length) :
    Calls Try.prog 81 #[.pointer (some ⟨gf, 0, none⟩), .pointer (some ⟨gi, 0, none⟩)] w fun e w' => e = .returned (.bool (anyF l is (so6 is i))) ∧ Below w.heap.size w w' := by
  obtain ⟨z0, z1⟩ := box2 hK
  have hany := Aside0.mk (any_calls 82 #[.pointer (some ⟨gi, 0, none⟩), .pointer (some ⟨gf, 0, none⟩)] (so6 is i) A c l B d is w hF enter82 (fun j hj W hW => so6_calls _ _ i _ W (hF.below hW) ((hW.block _ (blk_lt hK)).trans hK) ((hW.block _ (blk_lt hI)).trans hI) (hr j hj)))
  clear hK hI hF
  go_enter Try.func81, Try.ntmps81
  go_wp2_with fail
  refine hany.out.mono ?_; rintro e_ w3 ⟨rfl, hb3⟩
  go_wp2
  go_ret
  exact ⟨rfl, hb3⟩
def q4B (l : List S28) (is : List Bool) (t : S28) : Bool := (t.f0 == 2) && ((isAt is t.f2 && pointB l is t.f3) || (isAt is t.f3 && pointB l is t.f2))
set_option maxHeartbeats 1000000 in
theorem told4_calls (gt gf : Nat) (t : S28) (w : World) (hF : FS A c l B d is w) (hK : w.heap[gf]? = some (.cells #[.slice A l.length c, .slice B l.length d] 80 (0, 0))) (hT : w.heap[gt]? = some (.cells #[.int .i64 t.f0, .int .u64 t.f1, .int .i64 t.f2, .int .i64 t.f3] 28 (0, 0)))
    (hr : t.f0 = 2 → (0 ≤ t.f2 ∧ t.f2 < l.length) ∧ 0 ≤ t.f3 ∧ t.f3 < l.length) :
    Calls Try.prog 76 #[.pointer (some ⟨gt, 0, none⟩), .pointer (some ⟨gf, 0, none⟩)] w fun e w' => e = .returned (.bool (q4B l is t)) ∧ Below w.heap.size w w' := by
  obtain ⟨z0, z1⟩ := box2 hK
  obtain ⟨x0, x1, x2, x3⟩ := box4 hT
  have hl := hF.hl
  have hq : Hid (∀ W, Below w.heap.size w W → (W.cell? ⟨gf, 0, none⟩ = some (.slice A l.length c) ∧ W.cell? ⟨gf, 1, none⟩ = some (.slice B l.length d)) ∧ W.cell? ⟨gt, 0, none⟩ = some (.int .i64 t.f0) ∧ W.cell? ⟨gt, 1, none⟩ = some (.int .u64 t.f1) ∧ W.cell? ⟨gt, 2, none⟩ = some (.int .i64 t.f2) ∧ W.cell? ⟨gt, 3, none⟩ = some (.int .i64 t.f3)) := Lib.hid fun W hW => ⟨box2 ((hW.block _ (blk_lt hK)).trans hK), box4 ((hW.block _ (blk_lt hT)).trans hT)⟩
  clear hK hT
  unfold q4B
  cases k1 : (t.f0 == 2) with
  | false =>
    clear hF hr
    go_enter Try.func76, Try.ntmps76
    go_wp2
    go_ret
    exact ⟨by simp, Below.refl _ _⟩
  | true =>
    obtain ⟨⟨h0, h1⟩, h2, h3⟩ := hr (beq_iff_eq.1 k1)
    obtain ⟨ad, e, p0⟩ := hF.at_ t.f2 h0 h1
    obtain ⟨ad', e', p1⟩ := hF.at_ t.f3 h2 h3
    subst e
    cases e'
    have hp1 := Aside0.mk (point_calls t.f3 w hF h2 h3)
    have hp2 := Lib.hid (fun W (hW : Below w.heap.size w W) => point_calls t.f2 W (hF.below hW) h0 h1)
    have hq3 := Lib.hid (fun W (hW : Below w.heap.size w W) => (hF.below hW).at_ t.f3 h2 h3)
    clear hF hr
    cases b2 : isAt is t.f2 with
    | true =>
      rw [b2] at p0
      obtain ⟨pb, hpb⟩ : ∃ b, pointB l is t.f3 = b := ⟨_, rfl⟩
      rw [hpb] at hp1 ⊢
      go_enter Try.func76, Try.ntmps76
      go_wp2_with fail
      refine hp1.out.mono ?_; rintro e_ w3 ⟨rfl, hb3⟩
      clear p0 p1 x0 x1 x2 x3 z0 z1 hp1
      obtain ⟨⟨z0, z1⟩, x0, x1, x2, x3⟩ := hq.out _ hb3
      obtain ⟨ad2, e2, p1⟩ := hq3.out _ hb3
      cases e2
      cases pb with
      | true =>
        go_wp2
        go_ret
        exact ⟨by simp, hb3⟩
      | false =>
        cases b3 : isAt is t.f3 with
        | true =>
          rw [b3] at p1
          go_wp2_with fail
          refine (hp2.out _ hb3).mono ?_; rintro e_ w4 ⟨rfl, hb4⟩
          go_wp2
          go_ret
          exact ⟨by simp [b3], below_step hb3 hb4⟩
        | false =>
          rw [b3] at p1
          go_wp2
          go_ret
          exact ⟨by simp [b3], hb3⟩
    | false =>
      rw [b2] at p0
      cases b3 : isAt is t.f3 with
      | true =>
        rw [b3] at p1
        go_enter Try.func76, Try.ntmps76
        go_wp2_with fail
        refine (hp2.out _ (Below.refl _ _)).mono ?_; rintro e_ w4 ⟨rfl, hb4⟩
        go_wp2
        go_ret
        exact ⟨by simp, hb4⟩
      | false =>
        rw [b3] at p1
        go_enter Try.func76, Try.ntmps76
        go_wp2
        go_ret
        exact ⟨by simp, Below.refl _ _⟩
end

/-! ### HNext -/
theorem some1_calls (F : Nat) (cs : Array Value) (b : Bool) (w : World) (hEnt : ∀ args W, (callFunc F args).run Try.prog W = .ok (.enter F args) W) (h : Calls Try.prog F cs w fun e w' => e = .returned (.bool b) ∧ Below w.heap.size w w') :
    Calls Try.prog 85 #[.func (.func F) #[] cs] w fun e w' => e = .returned (.bool b) ∧ Below w.heap.size w w' := by
  go_enter Try.func85, Try.ntmps85
  go_wp2_with fail
  refine h.mono ?_; rintro e_ w2 ⟨rfl, hb⟩
  go_wp2
  go_ret
  exact ⟨rfl, hb⟩
/-- The first of the questions that is so. -/
def firstOf (n : Nat) (b : Nat → Bool) : Nat := (List.range n).findIdx b
theorem firstOf_at {n : Nat} {b : Nat → Bool} (i : Nat) (hi : i < n) (h : b i = true) (hno : ∀ j, j < i → b j = false) : firstOf n b = i := by
  unfold firstOf
  rw [List.findIdx_eq (by simpa using hi)]
  exact ⟨by simpa using h, fun j hj => by simpa using hno j hj⟩
theorem any_firstOf {n : Nat} {b : Nat → Bool} (i : Nat) (hi : i < n) (h : b i = true) : (List.range n).any b = true := List.any_eq_true.2 ⟨i, List.mem_range.2 hi, h⟩
theorem any_none {n : Nat} {b : Nat → Bool} (hno : ∀ j, j < n → b j = false) : (List.range n).any b = false := by
  rw [List.any_eq_false]
  intro j hj
  rw [hno j (List.mem_range.1 hj)]
  decide
set_option maxHeartbeats 1000000 in
theorem indexQ_calls (g n : Nat) (F : Nat → Nat) (cs : Nat → Array Value) (b : Nat → Bool) (w : World) (hn : n ≤ 1000) (hEnt : ∀ i, i < n → ∀ args W, (callFunc (F i) args).run Try.prog W = .ok (.enter (F i) args) W)
    (hg : ∀ i : Nat, i < n → ∀ W, Below w.heap.size w W → W.cell? ⟨g, i, none⟩ = some (.func (.func (F i)) #[] (cs i)))
    (h : ∀ i : Nat, i < n → ∀ W, Below w.heap.size w W → Calls Try.prog (F i) (cs i) W fun e w' => e = .returned (.bool (b i)) ∧ Below W.heap.size W w') :
    Calls Try.prog 87 #[.slice (some ⟨g, 0, none⟩) n n, .func (.func 85) #[] #[]] w fun e w' => (∃ k : Int, e = .returned (.int .i64 k) ∧ decide (0 ≤ k) = (List.range n).any b) ∧ Below w.heap.size w w' := by
  replace h := Lib.hid h
  replace hg := Lib.hid hg
  replace hEnt := Lib.hid hEnt
  go_enter Try.func87, Try.ntmps87
  go_wp2
  go_loopw [8] (fun v wr => ∃ i : Nat, i ≤ n ∧ v = .int .i64 (i : Int) ∧ (∀ j : Nat, j < i → b j = false) ∧ Below w.heap.size w wr) (fun v _ => n - (intOf v).toNat)
  case atStart => exact ⟨0, by omega, rfl, fun j h => absurd h (Nat.not_lt_zero j), Below.refl _ _⟩
  case round =>
    obtain ⟨i, hi, rfl, hno, hB⟩ := hrel
    by_cases hlt : (i : Int) < n
    · have z := hg.out i (by omega) wr hB
      have hc := Aside0.mk (some1_calls (F i) (cs i) (b i) wr (hEnt.out i (by omega)) (h.out i (by omega) wr hB))
      replace hno := Aside0.mk hno
      go_wp2_with fail
      refine hc.out.mono ?_; rintro e_ w2 ⟨rfl, hb⟩
      have hB2 := Aside0.mk (below_step hB hb)
      clear hc hb z
      cases hbi : b i with
      | true =>
        have hf := Lib.hid (any_firstOf (n := n) i (by omega) hbi)
        go_wp2
        go_ret
        exact ⟨⟨(i : Int), rfl, by rw [hf.out, decide_eq_true (by omega)]⟩, hB2.out⟩
      | false =>
        have hs := Aside0.mk (fun j (hj : j < i + 1) => (show b j = false from by
          by_cases e : j = i
          · subst e; exact hbi
          · exact hno.out j (by omega)))
        go_wp2
        go_roundw
        case rel => exact ⟨i + 1, by omega, by go_num, hs.out, hB2.out⟩
        case measure => simp [intOf]; omega
    · obtain rfl : i = n := by omega
      have hf := Lib.hid (any_none hno)
      go_wp2
      go_ret
      exact ⟨⟨-1, rfl, by rw [hf.out]; rfl⟩, hB⟩
theorem someQ_calls (g n : Nat) (F : Nat → Nat) (cs : Nat → Array Value) (b : Nat → Bool) (w : World) (hn : n ≤ 1000) (hEnt : ∀ i, i < n → ∀ args W, (callFunc (F i) args).run Try.prog W = .ok (.enter (F i) args) W)
    (hg : ∀ i : Nat, i < n → ∀ W, Below w.heap.size w W → W.cell? ⟨g, i, none⟩ = some (.func (.func (F i)) #[] (cs i)))
    (h : ∀ i : Nat, i < n → ∀ W, Below w.heap.size w W → Calls Try.prog (F i) (cs i) W fun e w' => e = .returned (.bool (b i)) ∧ Below W.heap.size W w') :
    Calls Try.prog 72 #[.slice (some ⟨g, 0, none⟩) n n] w fun e w' => e = .returned (.bool ((List.range n).any b)) ∧ Below w.heap.size w w' := by
  have hi := Aside0.mk (indexQ_calls g n F cs b w hn hEnt hg h)
  have hc : Calls Try.prog 84 #[.slice (some ⟨g, 0, none⟩) n n, .func (.func 85) #[] #[]] w fun e w' => e = .returned (.bool ((List.range n).any b)) ∧ Below w.heap.size w w' := by
    clear hg h hEnt
    go_enter Try.func84, Try.ntmps84
    go_wp2_with fail
    refine hi.out.mono ?_; rintro e_ w2 ⟨⟨k, rfl, hk⟩, hb⟩
    replace hk := Lib.hid hk
    clear hi
    go_wp2
    go_ret
    exact ⟨by rw [← hk.out]; rfl, hb⟩
  replace hc := Aside0.mk hc
  clear hi h hg hEnt
  go_enter Try.func72, Try.ntmps72
  go_wp2_with fail
  refine hc.out.mono ?_; rintro e_ w2 ⟨rfl, hb⟩
  go_wp2
  go_ret
  exact ⟨rfl, hb⟩
def toldB (l : List S28) (is : List Bool) (i : Int) : Bool :=
  isAt is i || (q2B is (rd_T28 l i) || (q3B is (rd_T28 l i) || (q4B l is (rd_T28 l i) || (anyF l is (so5 i) || anyF l is (so6 is i)))))
/-- What a term of a list that may be leads to lies in the list. -/
def rangeT (l : List S28) : Prop := ∀ j : Nat, j < l.length → (unaryB (rd_T28 l (j : Int)).f0 = true → 0 ≤ (rd_T28 l (j : Int)).f2 ∧ (rd_T28 l (j : Int)).f2 < l.length) ∧
  (4 ≤ (rd_T28 l (j : Int)).f0 → (0 ≤ (rd_T28 l (j : Int)).f2 ∧ (rd_T28 l (j : Int)).f2 < l.length) ∧ 0 ≤ (rd_T28 l (j : Int)).f3 ∧ (rd_T28 l (j : Int)).f3 < l.length) ∧
  ((rd_T28 l (j : Int)).f0 = 2 → (0 ≤ (rd_T28 l (j : Int)).f2 ∧ (rd_T28 l (j : Int)).f2 < l.length) ∧ 0 ≤ (rd_T28 l (j : Int)).f3 ∧ (rd_T28 l (j : Int)).f3 < l.length)
theorem made_lt {n : Int} {t : S28} (h : madeB n t = true) : (unaryB t.f0 = true → 0 ≤ t.f2 ∧ t.f2 < n) ∧ (binaryB t.f0 = true → (0 ≤ t.f2 ∧ t.f2 < n) ∧ 0 ≤ t.f3 ∧ t.f3 < n) ∧ (t.f0 = 0 ∨ unaryB t.f0 = true ∨ binaryB t.f0 = true) := by
  unfold madeB at h
  split at h
  · cases h
  · split at h
    · rename_i h0
      have h0 : t.f0 = 0 := beq_iff_eq.1 h0
      refine ⟨fun hu => ?_, fun hb => ?_, .inl h0⟩
      · rw [h0] at hu; exact absurd hu (by decide)
      · rw [h0] at hb; exact absurd hb (by decide)
    · split at h
      · rename_i hu
        rw [Bool.and_eq_true] at h
        unfold inB at h
        rw [Bool.and_eq_true] at h
        have h1 := of_decide_eq_true h.1.1
        have h2 := of_decide_eq_true h.1.2
        refine ⟨fun _ => ⟨h1, h2⟩, fun hb => ?_, .inr (.inl hu)⟩
        exfalso
        unfold unaryB at hu
        unfold binaryB at hb
        simp only [Bool.or_eq_true, Bool.and_eq_true, beq_iff_eq, decide_eq_true_eq] at hu hb
        omega
      · rename_i hu
        rw [Bool.and_eq_true, Bool.and_eq_true, Bool.and_eq_true] at h
        unfold inB at h
        rw [Bool.and_eq_true, Bool.and_eq_true] at h
        exact ⟨fun h' => absurd h' hu, fun _ => ⟨⟨of_decide_eq_true h.2.1.1, of_decide_eq_true h.2.1.2⟩, of_decide_eq_true h.2.2.1.1, of_decide_eq_true h.2.2.1.2⟩, .inr (.inr h.1)⟩
theorem range_of {l : List S28} (h : rightB l = true) : rangeT l := fun j hj => by
  unfold rightB rowT at h
  have h1 := List.all_eq_true.1 (Bool.and_eq_true_iff.1 h).1 j (List.mem_range.2 hj)
  unfold okT at h1
  obtain ⟨m1, m2, m3⟩ := made_lt (Bool.and_eq_true_iff.1 h1).1
  refine ⟨fun hu => ?_, fun h4 => ?_, fun h2 => ?_⟩
  · have := m1 hu; omega
  · have hb : binaryB (rd_T28 l (j : Int)).f0 = true := by
      rcases m3 with h | h | h
      · omega
      · unfold unaryB at h
        simp only [Bool.or_eq_true, beq_iff_eq] at h
        omega
      · exact h
    have := m2 hb; omega
  · have := m2 (by rw [h2]; rfl); omega
def qF (i : Nat) : Nat := match i with
  | 0 => 73
  | 1 => 74
  | 2 => 75
  | 3 => 76
  | 4 => 78
  | _ => 81
def qC (gf gi gt i : Nat) : Array Value := match i with
  | 0 => #[.pointer (some ⟨gf, 0, none⟩), .pointer (some ⟨gi, 0, none⟩)]
  | 1 => #[.pointer (some ⟨gt, 0, none⟩), .pointer (some ⟨gf, 0, none⟩)]
  | 2 => #[.pointer (some ⟨gt, 0, none⟩), .pointer (some ⟨gf, 0, none⟩)]
  | 3 => #[.pointer (some ⟨gt, 0, none⟩), .pointer (some ⟨gf, 0, none⟩)]
  | 4 => #[.pointer (some ⟨gf, 0, none⟩), .pointer (some ⟨gi, 0, none⟩)]
  | _ => #[.pointer (some ⟨gf, 0, none⟩), .pointer (some ⟨gi, 0, none⟩)]
def qB (l : List S28) (is : List Bool) (i : Int) (k : Nat) : Bool := match k with
  | 0 => isAt is i
  | 1 => q2B is (rd_T28 l i)
  | 2 => q3B is (rd_T28 l i)
  | 3 => q4B l is (rd_T28 l i)
  | 4 => anyF l is (so5 i)
  | _ => anyF l is (so6 is i)
theorem qB_all (l : List S28) (is : List Bool) (i : Int) : (List.range 6).any (qB l is i) = toldB l is i := by
  show (qB l is i 0 || (qB l is i 1 || (qB l is i 2 || (qB l is i 3 || (qB l is i 4 || (qB l is i 5 || false)))))) = _
  rw [Bool.or_false]
  rfl
set_option maxHeartbeats 1000000 in
set_option maxRecDepth 100000 in
theorem told_calls (A : Option Addr) (c : Nat) (l : List S28) (B : Option Addr) (d : Nat) (is : List Bool) (i : Int) (w : World) (hF : FS A c l B d is w) (h0 : 0 ≤ i) (h1 : i < l.length) (hr : rangeT l) :
    Calls Try.prog 64 #[fv A l.length c B l.length d, .int .i64 i] w fun e w' => e = .returned (.bool (toldB l is i)) ∧ Below w.heap.size w w' := by
  obtain ⟨w1, hw1⟩ : ∃ w1, w.alloc (.cells #[.slice A l.length c, .slice B l.length d] 80 (0, 0)) = w1 := ⟨_, rfl⟩
  have hb1 : Below w.heap.size w w1 := by rw [← hw1]; exact below_alloc (Below.refl _ _) _
  have hK1 : w1.heap[w.heap.size]? = some (.cells #[.slice A l.length c, .slice B l.length d] 80 (0, 0)) := by rw [← hw1]; exact heap_alloc_new _ _
  have hs1 : w1.heap.size = w.heap.size + 1 := by rw [← hw1]; simp
  obtain ⟨w2, hw2⟩ : ∃ w2, w1.alloc (.cells #[.int .i64 i] 3 (0, 0)) = w2 := ⟨_, rfl⟩
  have hb2 : Below w1.heap.size w1 w2 := by rw [← hw2]; exact below_alloc (Below.refl _ _) _
  have hs2 : w2.heap.size = w.heap.size + 2 := by rw [← hw2]; simp [hs1]
  have hK2 : w2.heap[w.heap.size + 1]? = some (.cells #[.int .i64 i] 3 (0, 0)) := by rw [← hs1, ← hw2]; exact heap_alloc_new _ _
  obtain ⟨w3, hw3⟩ : ∃ w3, w2.alloc (.cells #[.int .i64 0, .int .u64 0, .int .i64 0, .int .i64 0] 28 (0, 0)) = w3 := ⟨_, rfl⟩
  have hb3 : Below w2.heap.size w2 w3 := by rw [← hw3]; exact below_alloc (Below.refl _ _) _
  have hK3 : w3.heap[w.heap.size + 2]? = some (.cells #[.int .i64 0, .int .u64 0, .int .i64 0, .int .i64 0] 28 (0, 0)) := by rw [← hs2, ← hw3]; exact heap_alloc_new _ _
  have hK12 := (hb2.block _ (blk_lt hK1)).trans hK1
  have hB2 := below_step hb1 hb2
  have hF2 := hF.below hB2
  obtain ⟨z0, z1⟩ := box2 hK12
  have y0 := box1 hK2
  obtain ⟨ad, eA, q0, q1, q2, q3⟩ := at_T28 hF2.hC i h0 h1
  subst eA
  have hi3 : rangeT l := hr
  have hrt := hr i.toNat (by omega)
  rw [Int.toNat_of_nonneg h0] at hrt
  have hqb := qB_all l is i
  have hl := hF.hl
  obtain ⟨t, ht⟩ : ∃ t, rd_T28 l i = t := ⟨_, rfl⟩
  rw [ht] at q0 q1 q2 q3 hrt
  clear hF
  replace hrt := Lib.hid hrt
  go_enter Try.func64, Try.ntmps64
  go_wp2_with ((with_reducible refine gate_store (t := 28) (p := 5) rfl ?_); go_loud (refine wpList_storeBox rfl rfl 28 (.tmp 5) (.tmp 10) rfl (tv t) [.int .i64 t.f0, .int .u64 t.f1, .int .i64 t.f2, .int .i64 t.f3] rfl rfl rfl (by kernel_rfl) (by simp [Value.oneCell']) hK3 rfl ?_); intro w4 hK4 hg4 hs4; clear z0 z1 y0 q0 q1 q2 q3; obtain ⟨w5, hw5⟩ : ∃ w5, w4.alloc (.cells #[.func (.func 73) #[] #[.pointer (some ⟨w.heap.size, 0, none⟩), .pointer (some ⟨w.heap.size + 1, 0, none⟩)], .func (.func 74) #[] #[.pointer (some ⟨w.heap.size + 2, 0, none⟩), .pointer (some ⟨w.heap.size, 0, none⟩)], .func (.func 75) #[] #[.pointer (some ⟨w.heap.size + 2, 0, none⟩), .pointer (some ⟨w.heap.size, 0, none⟩)], .func (.func 76) #[] #[.pointer (some ⟨w.heap.size + 2, 0, none⟩), .pointer (some ⟨w.heap.size, 0, none⟩)], .func (.func 78) #[] #[.pointer (some ⟨w.heap.size, 0, none⟩), .pointer (some ⟨w.heap.size + 1, 0, none⟩)], .func (.func 81) #[] #[.pointer (some ⟨w.heap.size, 0, none⟩), .pointer (some ⟨w.heap.size + 1, 0, none⟩)]] 26 (0, 0)) = w5 := ⟨_, rfl⟩)
  have hb5 : Below w4.heap.size w4 w5 := by rw [← hw5]; exact below_alloc (Below.refl _ _) _
  have hK5 : w5.heap[w3.heap.size]? = some (.cells #[.func (.func 73) #[] #[.pointer (some ⟨w.heap.size, 0, none⟩), .pointer (some ⟨w.heap.size + 1, 0, none⟩)], .func (.func 74) #[] #[.pointer (some ⟨w.heap.size + 2, 0, none⟩), .pointer (some ⟨w.heap.size, 0, none⟩)], .func (.func 75) #[] #[.pointer (some ⟨w.heap.size + 2, 0, none⟩), .pointer (some ⟨w.heap.size, 0, none⟩)], .func (.func 76) #[] #[.pointer (some ⟨w.heap.size + 2, 0, none⟩), .pointer (some ⟨w.heap.size, 0, none⟩)], .func (.func 78) #[] #[.pointer (some ⟨w.heap.size, 0, none⟩), .pointer (some ⟨w.heap.size + 1, 0, none⟩)], .func (.func 81) #[] #[.pointer (some ⟨w.heap.size, 0, none⟩), .pointer (some ⟨w.heap.size + 1, 0, none⟩)]] 26 (0, 0)) := by rw [← hs4, ← hw5]; exact heap_alloc_new _ _
  have hs3 : w3.heap.size = w.heap.size + 3 := by rw [← hw3]; simp [hs2]
  have hb24 : Below w2.heap.size w2 w4 := hb3.grown hg4 hb3.size (fun k hk => by cases hk; omega)
  have hb25 := below_step hb24 hb5
  have hKf := (hb25.block _ (blk_lt hK12)).trans hK12
  have hKi := (hb25.block _ (blk_lt hK2)).trans hK2
  have hKt := (hb5.block _ (blk_lt hK4)).trans hK4
  have hF5 := hF2.below hb25
  have hrt2 := hrt.out
  refine (someQ_calls w3.heap.size 6 qF (qC w.heap.size (w.heap.size + 1) (w.heap.size + 2)) (qB l is i) w5 (by omega) (fun k hk => ?_) (fun k hk W hW => ?_) (fun k hk W hW => ?_)).mono ?_
  · match k, hk with
    | 0, _ => exact enter73
    | 1, _ => exact enter74
    | 2, _ => exact enter75
    | 3, _ => exact enter76
    | 4, _ => exact enter78
    | 5, _ => exact enter81
  · have h := (hW.block _ (blk_lt hK5)).trans hK5
    match k, hk with
    | 0, _ => exact (blk_cell h 0).trans rfl
    | 1, _ => exact (blk_cell h 1).trans rfl
    | 2, _ => exact (blk_cell h 2).trans rfl
    | 3, _ => exact (blk_cell h 3).trans rfl
    | 4, _ => exact (blk_cell h 4).trans rfl
    | 5, _ => exact (blk_cell h 5).trans rfl
  · have hf := (hW.block _ (blk_lt hKf)).trans hKf
    have hi := (hW.block _ (blk_lt hKi)).trans hKi
    have htt := (hW.block _ (blk_lt hKt)).trans hKt
    have hFW := hF5.below hW
    subst ht
    match k, hk with
    | 0, _ => exact told1_calls _ _ i W hFW hf hi h0 h1
    | 1, _ => exact told2_calls _ _ _ W hFW hf htt hrt2.1
    | 2, _ => exact told3_calls _ _ _ W hFW hf htt hrt2.2.1
    | 3, _ => exact told4_calls _ _ _ W hFW hf htt hrt2.2.2
    | 4, _ => exact told5_calls _ _ i W hFW hf hi
    | 5, _ => exact told6_calls _ _ i W hFW hf hi (fun j hj h5 => ((hr j hj).2.1 (by omega)).1)
  · rintro e_ w6 ⟨rfl, hb6⟩
    rw [hqb]
    clear hKf hKi hKt hK5 hK12 hF5 hF2 hrt2
    go_wp2
    go_ret
    exact ⟨rfl, below_step hB2 (below_step hb25 hb6)⟩
end Go.Proofs.Ytenmmeehgnkcpaa.Q
