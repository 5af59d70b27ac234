/- equiv.Recipes: the list then, the recipes, or why there are none.
   Conditions: the list is read as terms whose numbers are of 64 bits. -/
import Derived.Test.YtenmmeehgnkcpaaHRecIter
import Derived.Test.YtenmmeehgnkcpaaHBase22
import Derived.Shelf.Abstract
namespace Go.Proofs.Ytenmmeehgnkcpaa.Q
open Go.RowKit Go.RangeOpen Go.Proofs.YtenmmeehgnkcpaaW.PrintWords Go.Proofs.YtenmmeehgnkcpaaW.PrintLast Go.Proofs.YtenmmeehgnkcpaaW.PrintMore
attribute [local go_sem] Oper.semAt_some
set_option linter.unusedVariables false
set_option linter.unusedSimpArgs false

theorem loadVar_23 {W : World} {g : Nat} {v : Value} (h : W.cell? ⟨g, 0, none⟩ = some v) : (loadVar 23 ⟨g, 0, none⟩).run Try.prog W = .ok v W := by
  simp [loadVar, isAgg, run_underlying Try.underlying23, h, Result.andThen, go_sem]
theorem loadVar_33 {W : World} {g : Nat} {v : Value} (h : W.cell? ⟨g, 0, none⟩ = some v) : (loadVar 33 ⟨g, 0, none⟩).run Try.prog W = .ok v W := by
  simp [loadVar, isAgg, run_underlying Try.underlying33, h, Result.andThen, go_sem]
theorem loadVar_29 {W : World} {g : Nat} {v : Value} (h : W.cell? ⟨g, 0, none⟩ = some v) : (loadVar 29 ⟨g, 0, none⟩).run Try.prog W = .ok v W := by
  simp [loadVar, isAgg, run_underlying Try.underlying29, h, Result.andThen, go_sem]
theorem results_34 (tmps : Array Value) (W : World) {a b c : Nat} {u v x : Value} (ha : tmps.getD 4 undef = .pointer (some ⟨a, 0, none⟩)) (hb : tmps.getD 5 undef = .pointer (some ⟨b, 0, none⟩)) (hc : tmps.getD 6 undef = .pointer (some ⟨c, 0, none⟩))
    (hu : W.cell? ⟨a, 0, none⟩ = some u) (hv : W.cell? ⟨b, 0, none⟩ = some v) (hx : W.cell? ⟨c, 0, none⟩ = some x) : (results Try.f34 tmps).run Try.prog W = .ok (.tuple #[u, v, x]) W := by
  have h : Try.f34.results = #[.cell 4 23, .cell 5 33, .cell 6 29] := rfl
  have e1 : tmps[4]?.getD undef = .pointer (some ⟨a, 0, none⟩) := by simpa using ha
  have e2 : tmps[5]?.getD undef = .pointer (some ⟨b, 0, none⟩) := by simpa using hb
  have e3 : tmps[6]?.getD undef = .pointer (some ⟨c, 0, none⟩) := by simpa using hc
  simp [results, h, e1, e2, e3, asAddr, loadVar_23 hu, loadVar_33 hv, loadVar_29 hx]
/-- The list then, the recipes, or why there are none. -/
def recR (l : List S28) (fr : List Int) : List S28 × List Int × Int :=
  if rightB l = true then
    (if fr.length < 1 ∨ 5 < fr.length then ([], [], 2)
    else if fr.all (inL l.length) = true then (if (stL (l, false) (items l fr)).2 = true then ([], [], 6) else ((stL (l, false) (items l fr)).1, valsL (l, false) (items l fr), 0))
    else ([], [], 5))
  else ([], [], 1)
def RecE (r : List S28 × List Int × Int) (e : Ending) (W : World) : Prop := ∃ A c B d, e = .returned (.tuple #[.slice A r.1.length c, .slice B r.2.1.length d, .int .i64 r.2.2]) ∧ r.1.length ≤ c ∧ r.2.1.length ≤ d ∧ k28.C W A r.1.length r.1 ∧ (Kd.int .i64).C W B r.2.1.length r.2.1
theorem recE_bad (q : Int) (W : World) : RecE ([], [], q) (.returned (.tuple #[.slice none 0 0, .slice none 0 0, .int .i64 q])) W := ⟨none, 0, none, 0, rfl, Nat.le_refl _, Nat.le_refl _, Kd.C_nil _ _, Kd.C_nil _ _⟩
/-- The three results' boxes. -/
def Out3 (a b c : Nat) (u v x : Value) (W : World) : Prop := Boxed W a 23 u ∧ Boxed W b 33 v ∧ Boxed W c 29 x ∧ a < b ∧ b < c
theorem out3_a {a b c : Nat} {u v x u' : Value} {W W' : World} (h : Out3 a b c u v x W) (hK : W'.heap[a]? = some (.cells [u'].toArray 23 (0, 0))) (hg : W.grownBy W' (some a)) : Out3 a b c u' v x W' :=
  ⟨hK, (hg.block _ h.2.1.lt (fun e => by injection e; have := h.2.2.2; omega)).trans h.2.1, (hg.block _ h.2.2.1.lt (fun e => by injection e; have := h.2.2.2; omega)).trans h.2.2.1, h.2.2.2⟩
theorem out3_b {a b c : Nat} {u v x v' : Value} {W W' : World} (h : Out3 a b c u v x W) (hK : W'.heap[b]? = some (.cells [v'].toArray 33 (0, 0))) (hg : W.grownBy W' (some b)) : Out3 a b c u v' x W' :=
  ⟨(hg.block _ h.1.lt (fun e => by injection e; have := h.2.2.2; omega)).trans h.1, hK, (hg.block _ h.2.2.1.lt (fun e => by injection e; have := h.2.2.2; omega)).trans h.2.2.1, h.2.2.2⟩
theorem out3_c {a b c : Nat} {u v x x' : Value} {W W' : World} (h : Out3 a b c u v x W) (hK : W'.heap[c]? = some (.cells [x'].toArray 29 (0, 0))) (hg : W.grownBy W' (some c)) : Out3 a b c u v x' W' :=
  ⟨(hg.block _ h.1.lt (fun e => by injection e; have := h.2.2.2; omega)).trans h.1, (hg.block _ h.2.1.lt (fun e => by injection e; have := h.2.2.2; omega)).trans h.2.1, hK, h.2.2.2⟩
theorem out3_below {a b c : Nat} {u v x : Value} {W W' : World} (h : Out3 a b c u v x W) (hb : Below W.heap.size W W') : Out3 a b c u v x W' :=
  ⟨(hb.block _ h.1.lt).trans h.1, (hb.block _ h.2.1.lt).trans h.2.1, (hb.block _ h.2.2.1.lt).trans h.2.2.1, h.2.2.2⟩
theorem three_below {a b c n : Nat} {w W W1 W2 W3 : World} (h : Below n w W) (hn : n ≤ W.heap.size) (ha : n ≤ a) (hb : n ≤ b) (hc : n ≤ c) (h1 : W.grownBy W1 (some a)) (h2 : W1.grownBy W2 (some b)) (h3 : W2.grownBy W3 (some c)) : Below n w W3 :=
  ((h.grown h1 hn (fun k hk => by injection hk; omega)).grown h2 (Nat.le_trans hn h1.size) (fun k hk => by injection hk; omega)).grown h3 (Nat.le_trans (Nat.le_trans hn h1.size) h2.size) (fun k hk => by injection hk; omega)
set_option maxHeartbeats 1000000 in
/-- The method's value: the iterator, over its boxes. -/
theorem recipes_value (n g : Nat) (A : Option Addr) (k c : Nat) (w : World) :
    CallsIn Fence.wide n Try.prog 56 #[.pointer (some ⟨g, 0, none⟩), .slice A k c] w fun e w' => e = .returned (.func (.func 67) #[] #[.pointer (some ⟨w.heap.size + 1, 0, none⟩), .pointer (some ⟨w.heap.size, 0, none⟩)]) ∧ w' = (w.alloc (.cells #[.pointer (some ⟨g, 0, none⟩)] 87)).alloc (.cells #[.slice A k c] 33) := by
  refine callsIn_of_wp Try.func56 rfl trivial ?_ rfl
  simp only [Try.ntmps56, List.size_toArray, List.length_cons, List.length_nil, Nat.reduceAdd, Nat.reduceSub, Array.replicate_succ, Array.replicate_zero, List.push_toArray, List.append_toArray, List.nil_append, List.cons_append]
  gi_wp2
  go_ret
  exact ⟨rfl, rfl⟩
/-- What the loop over the recipes knows between two rounds. -/
def JR (w : World) (b c g cv ob L : Nat) (rdy : Obj) (l : List S28) (D : List It) (W : World) : Prop :=
  Boxed W cv 87 (.pointer (some ⟨g, 0, none⟩)) ∧ (∃ v, Boxed W ob 33 v ∧ W.ownsRow L 3 1 v (valsL (l, false) D).length ((valsL (l, false) D).map (Value.int .i64))) ∧
  Out3 w.heap.size b c (.slice none 0 0) (.slice none 0 0) (.int .i64 0) W ∧ (stL (l, false) D).2 = false ∧ Below w.heap.size w W ∧ W.heap[L + 1]? = some rdy ∧ W.heap[L]? = some (.deferred (some []))
/-- Where a round has left it: there was no room. -/
def JX (w : World) (b c L : Nat) (fin : Code → Obj) (l : List S28) (D : List It) (W : World) : Prop :=
  (stL (l, false) D).2 = true ∧ Out3 w.heap.size b c (.slice none 0 0) (.slice none 0 0) (.int .i64 6) W ∧ Below w.heap.size w W ∧ W.heap[L + 1]? = some (fin .ret) ∧ W.heap[L]? = some (.deferred (some []))
theorem out3_kept {a b c g : Nat} {u v x : Value} {W W' : World} (h : Out3 a b c u v x W) (hg : W.grownBy W' (some g)) (hn : c < g) : Out3 a b c u v x W' := by
  obtain ⟨h1, h2, h3, h4, h5⟩ := h
  exact ⟨h1.kept hg (by simp; omega), h2.kept hg (by simp; omega), h3.kept hg (by simp; omega), h4, h5⟩
theorem jr_kept {w : World} {b c g cv ob L : Nat} {rdy : Obj} {l : List S28} {D : List It} {W W' : World} (hn : w.heap.size ≤ g ∧ c < g ∧ g < cv ∧ cv < ob ∧ ob < L) (h : JR w b c g cv ob L rdy l D W) (hg : W.grownBy W' (some g)) : JR w b c g cv ob L rdy l D W' := by
  obtain ⟨h1, ⟨v, h2, h3⟩, h4, h5, h6, h7, h8⟩ := h
  have hL1 : L + 1 < W.heap.size := (Array.getElem?_eq_some_iff.1 h7).1
  refine ⟨h1.kept hg (by simp; omega), ⟨v, h2.kept hg (by simp; omega), h3.kept hg (.inr fun e => ?_)⟩, out3_kept h4 hg hn.2.1, h5, h6.grown hg h6.size (fun k hk => by injection hk; omega), (hg.block _ hL1 (by simp; omega)).trans h7, (hg.block _ (by omega) (by simp; omega)).trans h8⟩
  have := own_base h3 _ e
  omega
/-- A world in which all blocks but three are the same. -/
structure Same3 (x y : Nat) (ow : Option Nat) (W W' : World) : Prop where
  os : W'.os = W.os
  tape : W'.tape = W.tape
  output : W'.output = W.output
  size : W.heap.size ≤ W'.heap.size
  block : ∀ k, k < W.heap.size → k ≠ x → k ≠ y → some k ≠ ow → W'.heap[k]? = W.heap[k]?
theorem add_blk (ad : Addr) (k : Nat) : (ad.add k).block = ad.block := by
  simp only [Addr.add]
  split <;> rfl
theorem C28_same {W W' : World} {A : Option Addr} {n : Nat} {l : List S28} (hC : k28.C W A n l) (h : ∀ ad, A = some ad → 0 < n → W'.heap[ad.block]? = W.heap[ad.block]?) : k28.C W' A n l := by
  refine ⟨hC.1, hC.2.1, fun hn => ?_⟩
  obtain ⟨ad, e, hc⟩ := hC.2.2 hn
  refine ⟨ad, e, fun j p hj => ?_⟩
  obtain ⟨c, hs, hr, hcell⟩ := hc j p hj
  obtain rfl := k28_open hr
  exact ⟨_, hs, k28_mk _ _, fun i u hu => (World.cell?_of_block (by rw [add_blk]; exact h ad e hn)).trans (hcell i u hu)⟩
theorem CI_same {W W' : World} {A : Option Addr} {n : Nat} {l : List Int} (hC : (Kd.int .i64).C W A n l) (h : ∀ ad, A = some ad → 0 < n → W'.heap[ad.block]? = W.heap[ad.block]?) : (Kd.int .i64).C W' A n l := by
  refine ⟨hC.1, hC.2.1, fun hn => ?_⟩
  obtain ⟨ad, e, hc⟩ := hC.2.2 hn
  refine ⟨ad, e, fun j p hj => ?_⟩
  obtain ⟨c, hs, hr, hcell⟩ := hc j p hj
  exact ⟨c, hs, hr, fun i u hu => (World.cell?_of_block (by rw [add_blk]; exact h ad e hn)).trans (hcell i u hu)⟩
theorem C28_obj {W W' : World} {A : Option Addr} {n k : Nat} {l : List S28} {o : Obj} (hC : k28.C W A n l) (hk : W.heap[k]? = some o) (ho : o.isCells = false) (hg : W.grownBy W' (some k)) : k28.C W' A n l :=
  C28_same hC fun ad e hn => by
    obtain ⟨ad', e', q0, _⟩ := at_T28 hC 0 (by omega) (by omega)
    rw [e] at e'
    injection e' with e'
    subst e'
    obtain ⟨o', h1, h2⟩ := cells_of_cell q0
    rw [add_blk] at h1
    refine hg.block _ (Array.getElem?_eq_some_iff.1 h1).1 fun e => ?_
    injection e with e
    rw [e, hk] at h1
    injection h1 with h1
    rw [← h1, ho] at h2
    cases h2
theorem C28_block {W : World} {A : Option Addr} {n : Nat} {l : List S28} (hC : k28.C W A n l) (hn : 0 < n) (ad : Addr) (e : A = some ad) : ad.block < W.heap.size := by
  obtain ⟨ad', e', q0, _⟩ := at_T28 hC 0 (by omega) (by omega)
  rw [e] at e'
  injection e' with e'
  subst e'
  simpa [Addr.add] using block_lt_of_cell q0
theorem CI_block {W : World} {A : Option Addr} {n : Nat} {l : List Int} (hC : (Kd.int .i64).C W A n l) (hn : 0 < n) (ad : Addr) (e : A = some ad) : ad.block < W.heap.size := by
  obtain ⟨ad', e', q0⟩ := Kd.at_int hC 0 (by omega) (by omega)
  rw [e] at e'
  injection e' with e'
  subst e'
  simpa [Addr.add] using block_lt_of_cell q0
theorem own_ne {W : World} {base e size n g t : Nat} {v : Value} {xs : List Value} {cur : Array Value} (h : W.ownsRow base e size v n xs) (hg : W.heap[g]? = some (.cells cur t (0, 0))) (hne : t ≠ e) : some g ≠ v.ownBlock := by
  rcases h.2 with ⟨rfl, _⟩ | ⟨b, cap, cu, rfl, _, hb, _⟩
  · simp [Value.ownBlock]
  · intro h
    obtain rfl : g = b := by simpa [Value.ownBlock] using h
    rw [hg] at hb
    injection hb with hb
    injection hb with _ hb
    exact hne hb
theorem itS_same {g gc gf : Nat} {A0 Af : Option Addr} {cf : Nat} {fr : List Int} {s : StC} {x y : Nat} {ow : Option Nat} {W W' : World} (hS : ItS g gc gf A0 Af cf fr s W) (hq : Same3 x y ow W W')
    (ha : 0 < s.1.length → ∀ ad, A0 = some ad → W'.heap[ad.block]? = W.heap[ad.block]?) (hf : 0 < fr.length → ∀ ad, Af = some ad → W'.heap[ad.block]? = W.heap[ad.block]?)
    (h28 : ∀ (k : Nat) (cur : Array Value), W.heap[k]? = some (Obj.cells cur 28 (0, 0)) → k ≠ x ∧ k ≠ y ∧ some k ≠ ow) (hg : g ≠ x ∧ g ≠ y ∧ some g ≠ ow) (hgc : gc ≠ x ∧ gc ≠ y ∧ some gc ≠ ow) (hgf : gf ≠ x ∧ gf ≠ y ∧ some gf ≠ ow) : ItS g gc gf A0 Af cf fr s W' ∧ Keep28 W W' := by
  have hk : Keep28 W W' := fun k cur h => by
    obtain ⟨h1, h2, h3⟩ := h28 k cur h
    exact (hq.block k (blk_lt h) h1 h2 h3).trans h
  obtain ⟨⟨A, c, h1, h2, h3, h4⟩, h5, h6, h7⟩ := hS
  refine ⟨⟨⟨A, c, (hq.block _ (blk_lt h1) hg.1 hg.2.1 hg.2.2).trans h1, h2, C28_same h3 fun ad e hn => ?_, h4.imp id fun h ad e => ?_⟩, (hq.block _ (blk_lt h5) hgc.1 hgc.2.1 hgc.2.2).trans h5, (hq.block _ (blk_lt h6) hgf.1 hgf.2.1 hgf.2.2).trans h6, CI_same h7 fun ad e hn => hf hn ad e⟩, hk⟩
  · rcases h4 with rfl | h4
    · exact ha hn ad e
    · obtain ⟨cu, hc⟩ := h4 ad e
      exact (hk _ _ hc).trans hc.symm
  · obtain ⟨cu, hc⟩ := h ad e
    exact ⟨cu, hk _ _ hc⟩
theorem Same3.trans {x y : Nat} {ow : Option Nat} {A B C : World} (h : Same3 x y ow A B) (k : Same3 x y ow B C) : Same3 x y ow A C :=
  ⟨k.os.trans h.os, k.tape.trans h.tape, k.output.trans h.output, Nat.le_trans h.size k.size, fun i hi h1 h2 h3 => (k.block i (Nat.lt_of_lt_of_le hi h.size) h1 h2 h3).trans (h.block i hi h1 h2 h3)⟩
theorem same3_of {x y : Nat} {ow row : Option Nat} {W W' : World} (hg : W.grownBy W' row) (hr : row = none ∨ row = some x ∨ row = some y ∨ row = ow) : Same3 x y ow W W' :=
  ⟨hg.os, hg.tape, hg.output, hg.size, fun k hk h1 h2 h3 => hg.block k hk fun e => by
    rcases hr with rfl | rfl | rfl | rfl
    · cases e
    · injection e; omega
    · injection e; omega
    · exact h3 e⟩
theorem Same3.below {x y n : Nat} {ow : Option Nat} {w A B : World} (hb : Below n w A) (hn : n ≤ A.heap.size) (h : Same3 x y ow A B) (h1 : n ≤ x) (h2 : n ≤ y) (h3 : ∀ k, ow = some k → n ≤ k) : Below n w B :=
  ⟨h.os.trans hb.os, h.tape.trans hb.tape, h.output.trans hb.output, Nat.le_trans hb.size h.size, fun k hk => (h.block k (by omega) (by omega) (by omega) (fun e => by have := h3 k e.symm; omega)).trans (hb.block k hk)⟩
theorem leaves_mark {F : Fence} {n : Nat} {P : Program} {fn : Func} {R : Ending → World → Prop} {tmps : Array Value} {W : World} {v : Value} {L : Nat} (hL : W.heap[L]? = some (.deferred (some []))) (hr : (results fn tmps).run P (W.putObj L (.deferred none)) = .ok v (W.putObj L (.deferred none))) (hR : R (.returned v) (W.putObj L (.deferred none))) :
    bodyPostM F n P fn R .ret { tmps := tmps, defers := [{ target := .collected L, args := #[] }] } W :=
  ⟨by simp, .inl ⟨_, _, rfl, run_takeDeferred hL, v, hr, hR⟩⟩
theorem flat_len {α β : Type} (f : α → List β) (k : Nat) (h : ∀ x, (f x).length = k) : ∀ l : List α, (l.flatMap f).length = l.length * k
  | [] => by simp
  | x :: l => by rw [List.flatMap_cons, List.length_append, flat_len f k h l, h x, List.length_cons, Nat.add_mul]; omega
theorem items_len (l : List S28) (fr : List Int) : (items l fr).length = fr.length + (fr.length * 4 + fr.length * (fr.length * 4)) := by
  unfold items
  rw [List.length_append, List.length_append, List.length_map, flat_len (it2 l) 4 (fun _ => rfl), flat_len _ (fr.length * 4) (fun x => flat_len (it3 l x) 4 (fun _ => rfl) fr)]
theorem info_int3 : (Try.prog.info? 3).map (fun i => (i.zero, i.size, i.bytes)) = some (some (.int .i64 0), 1, 8) := by kernel_rfl
theorem own_obj_ne {W : World} {base e size n k : Nat} {v : Value} {xs : List Value} {o : Obj} (h : W.ownsRow base e size v n xs) (hk : W.heap[k]? = some o) (ho : o.isCells = false) : some k ≠ v.ownBlock := by
  rcases h.2 with ⟨rfl, _⟩ | ⟨b, cap, cu, rfl, _, hb, _⟩
  · simp [Value.ownBlock]
  · intro h
    obtain rfl : k = b := by simpa [Value.ownBlock] using h
    rw [hk] at hb
    injection hb with hb
    subst hb
    cases ho
theorem out3_same3 {a b c x y : Nat} {ow : Option Nat} {u v z : Value} {W W' : World} (h : Out3 a b c u v z W) (hq : Same3 x y ow W W') (h1 : c < x) (h2 : c < y) (h3 : ∀ k, ow = some k → c < k) : Out3 a b c u v z W' := by
  obtain ⟨q1, q2, q3, q4, q5⟩ := h
  have hne : ∀ k, k ≤ c → some k ≠ ow := fun k hk e => by have := h3 k e.symm; omega
  exact ⟨(hq.block _ q1.lt (by omega) (by omega) (hne _ (by omega))).trans q1, (hq.block _ q2.lt (by omega) (by omega) (hne _ (by omega))).trans q2, (hq.block _ q3.lt (by omega) (by omega) (hne _ (by omega))).trans q3, q4, q5⟩
theorem stL_full : ∀ (R : List It) (s : StC), s.2 = true → (stL s R).2 = true
  | [], s, h => h
  | x :: R, s, h => stL_full R (stepI s x).1 (by
    cases x with
    | put i => exact h
    | add t =>
      show (cookA s t).1.2 = true
      unfold cookA
      split
      · exact h
      · rfl)
theorem full_final {s : StC} {D it : List It} (h : D <+: it) (hf : (stL s D).2 = true) : (stL s it).2 = true := by
  obtain ⟨R, rfl⟩ := h
  have := stL_full R (stL s D) hf
  unfold stL at this ⊢
  rw [List.foldl_append]
  exact this
theorem ownI_slice {W : World} {base n : Nat} {v : Value} {xs : List Int} (h : W.ownsRow base 3 1 v n (xs.map (Value.int .i64))) (hn : n = xs.length) : ∃ D c, v = .slice D n c ∧ n ≤ c ∧ (Kd.int .i64).C W D n xs ∧ ∀ ad, D = some ad → base ≤ ad.block := by
  obtain ⟨_, ⟨hv, h0⟩ | ⟨g, cap, cur, hv, hbase, hg, hc1, hc2, hc3, hc4⟩⟩ := h
  · subst h0
    obtain rfl : xs = [] := List.eq_nil_of_length_eq_zero hn.symm
    exact ⟨_, _, hv, Nat.zero_le _, Kd.C_nil _ _, fun ad e => by cases e⟩
  · refine ⟨_, _, hv, hc1, ⟨hn.symm, Nat.le_trans hc1 hc2, fun _ => ⟨_, rfl, fun j p hj => ⟨[.int .i64 p], rfl, rfl, fun i u hu => ?_⟩⟩⟩, fun ad e => by cases e; exact hbase⟩
    obtain ⟨rfl, rfl⟩ : i = 0 ∧ u = .int .i64 p := by
      rcases i with _ | i
      · exact ⟨rfl, by simpa using hu.symm⟩
      · simp at hu
    have hjn : j < n := by rw [hn]; exact (List.getElem?_eq_some_iff.1 hj).1
    rw [Addr.add_lit, blk_cell hg]
    have h5 := congrArg (fun l => l[j]?) hc4
    simp only [List.getElem?_take, List.getElem?_map, hj] at h5
    rw [if_pos (by omega)] at h5
    show cur[0 + (j * 1 + 0)]? = _
    rw [show 0 + (j * 1 + 0) = j by omega, ← Array.getElem?_toList]
    exact h5
theorem boxed_other {W : World} {B B' t : Nat} {v : Value} (h : Boxed W B t v) (hne : B ≠ B') (u : Value) : Boxed (W.setCell ⟨B', 0, none⟩ u) B t v :=
  h.kept (grownBy_setCell' W B' u) (fun e => hne (by injection e))
theorem fin3 {W : World} {a b c : Nat} {u v x : Value} (u' v' x' : Value) (h : Out3 a b c u v x W) : Out3 a b c u' v' x' (((W.setCell ⟨a, 0, none⟩ u').setCell ⟨b, 0, none⟩ v').setCell ⟨c, 0, none⟩ x').drew ∧
    (∀ k, k ≠ a → k ≠ b → k ≠ c → (((W.setCell ⟨a, 0, none⟩ u').setCell ⟨b, 0, none⟩ v').setCell ⟨c, 0, none⟩ x').drew.heap[k]? = W.heap[k]?) ∧
    ∀ n (w : World), Below n w W → n ≤ a → Below n w (((W.setCell ⟨a, 0, none⟩ u').setCell ⟨b, 0, none⟩ v').setCell ⟨c, 0, none⟩ x').drew := by
  obtain ⟨q1, q2, q3, q4, q5⟩ := h
  refine ⟨⟨((q1.set u').other (by omega) v').other (by omega) x', ((q2.other (by omega) u').set v').other (by omega) x', ((q3.other (by omega) u').other (by omega) v').set x', q4, q5⟩, fun k h1 h2 h3 => ?_, fun n w hb hn => ((((hb.setCell (p := ⟨a, 0, none⟩) hn u').setCell (p := ⟨b, 0, none⟩) (by show n ≤ b; omega) v').setCell (p := ⟨c, 0, none⟩) (by show n ≤ c; omega) x')).drew⟩
  exact (Below.heap_setCell _ _ _ k h3).trans ((Below.heap_setCell _ _ _ k h2).trans (Below.heap_setCell _ _ _ k h1))
theorem leaves_none {F : Fence} {n : Nat} {P : Program} {fn : Func} {R : Ending → World → Prop} {tmps : Array Value} {W : World} {v : Value} (hr : (results fn tmps).run P W = .ok v W) (hR : R (.returned v) W) : bodyPostM F n P fn R .ret { tmps := tmps, defers := [] } W := ⟨v, hr, hR⟩
set_option maxRecDepth 100000 in
set_option maxHeartbeats 4000000 in
theorem recipesFn_in (A0 : Option Addr) (c0 : Nat) (l : List S28) (A1 : Option Addr) (c1 : Nat) (fr : List Int) (w : World) (hC : k28.C w A0 l.length l) (hc0 : l.length ≤ c0) (hlen : l.length ≤ 1000000) (hwf : ∀ t ∈ l, wfT t)
    (hF : (Kd.int .i64).C w A1 fr.length fr) (hc1 : fr.length ≤ c1) (hfl : fr.length ≤ 1000000) :
    CallsIn Fence.wide 3 Try.prog 34 #[.slice A0 l.length c0, .slice A1 fr.length c1] w fun e W' => RecE (recR l fr) e W' ∧ Below w.heap.size w W' := by
  obtain ⟨w1, hw1⟩ : ∃ w1, w.alloc (.cells #[.slice none 0 0] 23 (0, 0)) = w1 := ⟨_, rfl⟩
  have hb1 : Below w.heap.size w w1 := by rw [← hw1]; exact below_alloc (Below.refl _ _) _
  have hK1 : Boxed w1 w.heap.size 23 (.slice none 0 0) := by rw [← hw1]; exact Boxed.new _ _ _
  obtain ⟨w2, hw2⟩ : ∃ w2, w1.alloc (.cells #[.slice none 0 0] 33 (0, 0)) = w2 := ⟨_, rfl⟩
  have hb2 : Below w1.heap.size w1 w2 := by rw [← hw2]; exact below_alloc (Below.refl _ _) _
  have hK2 : Boxed w2 w1.heap.size 33 (.slice none 0 0) := by rw [← hw2]; exact Boxed.new _ _ _
  obtain ⟨w3, hw3⟩ : ∃ w3, w2.alloc (.cells #[.int .i64 0] 29 (0, 0)) = w3 := ⟨_, rfl⟩
  have hb3 : Below w2.heap.size w2 w3 := by rw [← hw3]; exact below_alloc (Below.refl _ _) _
  have hK3 : Boxed w3 w2.heap.size 29 (.int .i64 0) := by rw [← hw3]; exact Boxed.new _ _ _
  have hB3 : Below w.heap.size w w3 := below_step (below_step hb1 hb2) hb3
  have ho0 : Out3 w.heap.size w1.heap.size w2.heap.size (.slice none 0 0) (.slice none 0 0) (.int .i64 0) w3 :=
    ⟨(hb3.block _ (Nat.lt_of_lt_of_le hK1.lt hb2.size)).trans ((hb2.block _ hK1.lt).trans hK1), (hb3.block _ hK2.lt).trans hK2, hK3, hK1.lt, hK2.lt⟩
  have hright := right_calls A0 c0 l w3 (Kd.C_below hC hB3) hc0 hlen hwf
  refine callsIn_of_wp_marks Try.func34 rfl trivial ?_ rfl
  simp only [Try.ntmps34, List.size_toArray, List.length_cons, List.length_nil, Nat.reduceAdd, Nat.reduceSub, Array.replicate_succ, Array.replicate_zero, List.push_toArray, List.append_toArray, List.nil_append, List.cons_append]
  gi_wp2
  refine ⟨trivial, (callsIn_wide.2 hright).mono ?_⟩
  rintro e w4 ⟨rfl, hb4⟩
  have ho1 := out3_below ho0 hb4
  have hB4 := Aside0.mk (below_step hB3 hb4)
  clear hright hb4 ho0 hb1 hb2 hb3 hK1 hK2 hK3 hw1 hw2 hw3 hB3
  generalize w1.heap.size = b at ho1 ⊢
  generalize w2.heap.size = c at ho1 ⊢
  cases hr : rightB l with
  | false =>
    have hans : recR l fr = ([], [], 1) := by unfold recR; rw [hr]; rfl
    gi_wp2_with (first | ((with_reducible refine gateIn_store (t := 23) (p := 4) rfl ?_); go_loud (refine wpListIn_storeBox rfl rfl 23 (.tmp 4) (.const (.slice none 0 0)) rfl (.slice none 0 0) [.slice none 0 0] rfl rfl rfl (by kernel_rfl) (by simp [Value.oneCell']) ho1.1 rfl ?_); intro W1 hK1 hg1 hs1; have ho2 := out3_a ho1 hK1 hg1; clear hK1 hs1) | ((with_reducible refine gateIn_store (t := 33) (p := 5) rfl ?_); go_loud (refine wpListIn_storeBox rfl rfl 33 (.tmp 5) (.const (.slice none 0 0)) rfl (.slice none 0 0) [.slice none 0 0] rfl rfl rfl (by kernel_rfl) (by simp [Value.oneCell']) ho2.2.1 rfl ?_); intro W2 hK2 hg2 hs2; have ho3 := out3_b ho2 hK2 hg2; clear hK2 hs2) | ((with_reducible refine gateIn_store (t := 29) (p := 6) rfl ?_); go_loud (refine wpListIn_storeBox rfl rfl 29 (.tmp 6) (.const (.int .i64 1)) rfl (.int .i64 1) [.int .i64 1] rfl rfl rfl (by kernel_rfl) (by simp [Value.oneCell']) ho3.2.2.1 rfl ?_); intro W3 hK3 hg3 hs3; have ho4 := out3_c ho3 hK3 hg3; clear hK3 hs3))
    refine leaves_none (results_34 _ _ rfl rfl rfl ho4.1.cell ho4.2.1.cell ho4.2.2.1.cell) ?_
    rw [hans]
    exact ⟨recE_bad _ _, three_below hB4.out hB4.out.size (Nat.le_refl _) (by have := ho4.2.2.2; omega) (by have := ho4.2.2.2; omega) hg1 hg2 hg3⟩
  | true =>
    by_cases hl1 : (fr.length : Int) < 1
    · have hans : recR l fr = ([], [], 2) := by unfold recR; rw [if_pos hr, if_pos (.inl (by omega))]
      gi_wp2_with (first | ((with_reducible refine gateIn_store (t := 23) (p := 4) rfl ?_); go_loud (refine wpListIn_storeBox rfl rfl 23 (.tmp 4) (.const (.slice none 0 0)) rfl (.slice none 0 0) [.slice none 0 0] rfl rfl rfl (by kernel_rfl) (by simp [Value.oneCell']) ho1.1 rfl ?_); intro W1 hK1 hg1 hs1; have ho2 := out3_a ho1 hK1 hg1; clear hK1 hs1) | ((with_reducible refine gateIn_store (t := 33) (p := 5) rfl ?_); go_loud (refine wpListIn_storeBox rfl rfl 33 (.tmp 5) (.const (.slice none 0 0)) rfl (.slice none 0 0) [.slice none 0 0] rfl rfl rfl (by kernel_rfl) (by simp [Value.oneCell']) ho2.2.1 rfl ?_); intro W2 hK2 hg2 hs2; have ho3 := out3_b ho2 hK2 hg2; clear hK2 hs2) | ((with_reducible refine gateIn_store (t := 29) (p := 6) rfl ?_); go_loud (refine wpListIn_storeBox rfl rfl 29 (.tmp 6) (.const (.int .i64 2)) rfl (.int .i64 2) [.int .i64 2] rfl rfl rfl (by kernel_rfl) (by simp [Value.oneCell']) ho3.2.2.1 rfl ?_); intro W3 hK3 hg3 hs3; have ho4 := out3_c ho3 hK3 hg3; clear hK3 hs3))
      refine leaves_none (results_34 _ _ rfl rfl rfl ho4.1.cell ho4.2.1.cell ho4.2.2.1.cell) ?_
      rw [hans]
      exact ⟨recE_bad _ _, three_below hB4.out hB4.out.size (Nat.le_refl _) (by have := ho4.2.2.2; omega) (by have := ho4.2.2.2; omega) hg1 hg2 hg3⟩
    by_cases hl5 : (5 : Int) < fr.length
    · have hans : recR l fr = ([], [], 2) := by unfold recR; rw [if_pos hr, if_pos (.inr (by omega))]
      gi_wp2_with (first | ((with_reducible refine gateIn_store (t := 23) (p := 4) rfl ?_); go_loud (refine wpListIn_storeBox rfl rfl 23 (.tmp 4) (.const (.slice none 0 0)) rfl (.slice none 0 0) [.slice none 0 0] rfl rfl rfl (by kernel_rfl) (by simp [Value.oneCell']) ho1.1 rfl ?_); intro W1 hK1 hg1 hs1; have ho2 := out3_a ho1 hK1 hg1; clear hK1 hs1) | ((with_reducible refine gateIn_store (t := 33) (p := 5) rfl ?_); go_loud (refine wpListIn_storeBox rfl rfl 33 (.tmp 5) (.const (.slice none 0 0)) rfl (.slice none 0 0) [.slice none 0 0] rfl rfl rfl (by kernel_rfl) (by simp [Value.oneCell']) ho2.2.1 rfl ?_); intro W2 hK2 hg2 hs2; have ho3 := out3_b ho2 hK2 hg2; clear hK2 hs2) | ((with_reducible refine gateIn_store (t := 29) (p := 6) rfl ?_); go_loud (refine wpListIn_storeBox rfl rfl 29 (.tmp 6) (.const (.int .i64 2)) rfl (.int .i64 2) [.int .i64 2] rfl rfl rfl (by kernel_rfl) (by simp [Value.oneCell']) ho3.2.2.1 rfl ?_); intro W3 hK3 hg3 hs3; have ho4 := out3_c ho3 hK3 hg3; clear hK3 hs3))
      refine leaves_none (results_34 _ _ rfl rfl rfl ho4.1.cell ho4.2.1.cell ho4.2.2.1.cell) ?_
      rw [hans]
      exact ⟨recE_bad _ _, three_below hB4.out hB4.out.size (Nat.le_refl _) (by have := ho4.2.2.2; omega) (by have := ho4.2.2.2; omega) hg1 hg2 hg3⟩
    have hF4 := Aside0.mk (Kd.C_below hF hB4.out)
    gi_wp2
    gi_loopw [27] (fun v wr => ∃ i : Nat, i ≤ fr.length ∧ v = .int .i64 (i : Int) ∧ (∀ j, j < i → inL l.length (rd fr (j : Int)) = true) ∧ wr = w4) (fun v _ => fr.length - (intOf v).toNat)
    case atStart => exact ⟨0, by omega, rfl, fun j h => absurd h (Nat.not_lt_zero _), rfl⟩
    case round =>
      obtain ⟨i, hi, rfl, hin, rfl⟩ := hrel
      by_cases hlt : (i : Int) < fr.length
      · obtain ⟨ad, rfl, hcell⟩ := Kd.at_int hF4.out (i : Int) (by omega) (by omega)
        rw [Int.toNat_natCast] at hcell
        have hall : inL l.length (rd fr (i : Int)) = false → fr.all (inL l.length) = false := fun h => by
          rw [List.all_eq_false]
          exact ⟨rd fr (i : Int), by rw [rdI_nat fr i (by omega)]; exact List.getElem_mem _, by rw [h]; decide⟩
        obtain ⟨x, hx⟩ : ∃ x, rd fr (i : Int) = x := ⟨_, rfl⟩
        rw [hx] at hcell hall
        by_cases hx0 : x < 0
        · have hans : recR l fr = ([], [], 5) := by
            unfold recR
            rw [if_pos hr, if_neg (by omega), if_neg]
            rw [hall (by unfold inL; rw [decide_eq_false (by omega)]; rfl)]
            decide
          gi_wp2_with (first | ((with_reducible refine gateIn_store (t := 23) (p := 4) rfl ?_); go_loud (refine wpListIn_storeBox rfl rfl 23 (.tmp 4) (.const (.slice none 0 0)) rfl (.slice none 0 0) [.slice none 0 0] rfl rfl rfl (by kernel_rfl) (by simp [Value.oneCell']) ho1.1 rfl ?_); intro W1 hK1 hg1 hs1; have ho2 := out3_a ho1 hK1 hg1; clear hK1 hs1) | ((with_reducible refine gateIn_store (t := 33) (p := 5) rfl ?_); go_loud (refine wpListIn_storeBox rfl rfl 33 (.tmp 5) (.const (.slice none 0 0)) rfl (.slice none 0 0) [.slice none 0 0] rfl rfl rfl (by kernel_rfl) (by simp [Value.oneCell']) ho2.2.1 rfl ?_); intro W2 hK2 hg2 hs2; have ho3 := out3_b ho2 hK2 hg2; clear hK2 hs2) | ((with_reducible refine gateIn_store (t := 29) (p := 6) rfl ?_); go_loud (refine wpListIn_storeBox rfl rfl 29 (.tmp 6) (.const (.int .i64 5)) rfl (.int .i64 5) [.int .i64 5] rfl rfl rfl (by kernel_rfl) (by simp [Value.oneCell']) ho3.2.2.1 rfl ?_); intro W3 hK3 hg3 hs3; have ho4 := out3_c ho3 hK3 hg3; clear hK3 hs3))
          refine leaves_none (results_34 _ _ rfl rfl rfl ho4.1.cell ho4.2.1.cell ho4.2.2.1.cell) ?_
          try rw [hans]
          exact ⟨recE_bad _ _, three_below hB4.out hB4.out.size (Nat.le_refl _) (by have := ho4.2.2.2; omega) (by have := ho4.2.2.2; omega) hg1 hg2 hg3⟩
        by_cases hx1 : (l.length : Int) ≤ x
        · have hans : recR l fr = ([], [], 5) := by
            unfold recR
            rw [if_pos hr, if_neg (by omega), if_neg]
            rw [hall (by unfold inL; rw [decide_eq_false (p := x < _) (by omega), Bool.and_false])]
            decide
          gi_wp2_with (first | ((with_reducible refine gateIn_store (t := 23) (p := 4) rfl ?_); go_loud (refine wpListIn_storeBox rfl rfl 23 (.tmp 4) (.const (.slice none 0 0)) rfl (.slice none 0 0) [.slice none 0 0] rfl rfl rfl (by kernel_rfl) (by simp [Value.oneCell']) ho1.1 rfl ?_); intro W1 hK1 hg1 hs1; have ho2 := out3_a ho1 hK1 hg1; clear hK1 hs1) | ((with_reducible refine gateIn_store (t := 33) (p := 5) rfl ?_); go_loud (refine wpListIn_storeBox rfl rfl 33 (.tmp 5) (.const (.slice none 0 0)) rfl (.slice none 0 0) [.slice none 0 0] rfl rfl rfl (by kernel_rfl) (by simp [Value.oneCell']) ho2.2.1 rfl ?_); intro W2 hK2 hg2 hs2; have ho3 := out3_b ho2 hK2 hg2; clear hK2 hs2) | ((with_reducible refine gateIn_store (t := 29) (p := 6) rfl ?_); go_loud (refine wpListIn_storeBox rfl rfl 29 (.tmp 6) (.const (.int .i64 5)) rfl (.int .i64 5) [.int .i64 5] rfl rfl rfl (by kernel_rfl) (by simp [Value.oneCell']) ho3.2.2.1 rfl ?_); intro W3 hK3 hg3 hs3; have ho4 := out3_c ho3 hK3 hg3; clear hK3 hs3))
          refine leaves_none (results_34 _ _ rfl rfl rfl ho4.1.cell ho4.2.1.cell ho4.2.2.1.cell) ?_
          try rw [hans]
          exact ⟨recE_bad _ _, three_below hB4.out hB4.out.size (Nat.le_refl _) (by have := ho4.2.2.2; omega) (by have := ho4.2.2.2; omega) hg1 hg2 hg3⟩
        have hin2 : Hid (∀ j, j < i + 1 → inL l.length (rd fr (j : Int)) = true) := Lib.hid fun j hj => by
          by_cases hji : j < i
          · exact hin j hji
          · obtain rfl : j = i := by omega
            rw [hx]
            unfold inL
            rw [decide_eq_true (show 0 ≤ x by omega), decide_eq_true (show x < _ by omega)]
            rfl
        clear hin hall
        gi_wp2
        go_roundw
        case rel => exact ⟨i + 1, by omega, by go_num, hin2.out, trivial⟩
        case measure => simp [intOf]; omega
      · obtain rfl : i = fr.length := by omega
        obtain ⟨w5, hw5⟩ : ∃ w5, wr.alloc (.cells #[.slice A0 l.length c0, .bool false] 89 (0, 0)) = w5 := ⟨_, rfl⟩
        have hb5 : Below wr.heap.size wr w5 := by rw [← hw5]; exact below_alloc (Below.refl _ _) _
        have hK5 : w5.heap[wr.heap.size]? = some (.cells #[.slice A0 l.length c0, .bool false] 89 (0, 0)) := by rw [← hw5]; exact heap_alloc_new _ _
        obtain ⟨w6, hw6⟩ : ∃ w6, w5.alloc (.cells #[.pointer none] 87 (0, 0)) = w6 := ⟨_, rfl⟩
        have hb6 : Below w5.heap.size w5 w6 := by rw [← hw6]; exact below_alloc (Below.refl _ _) _
        have hK6 : w6.heap[w5.heap.size]? = some (.cells #[.pointer none] 87 (0, 0)) := by rw [← hw6]; exact heap_alloc_new _ _
        gi_wp2_with ((with_reducible refine gateIn_store (t := 87) (p := 9) rfl ?_); go_loud (refine wpListIn_storeBox rfl rfl 87 (.tmp 9) (.tmp 42) rfl (.pointer (some ⟨wr.heap.size, 0, none⟩)) [.pointer (some ⟨wr.heap.size, 0, none⟩)] rfl rfl rfl (by kernel_rfl) (by simp [Value.oneCell']) hK6 rfl ?_); intro w7 hK7 hg7 hs7; obtain ⟨w8, hw8⟩ : ∃ w8, w7.alloc (.cells #[.slice none 0 0] 33 (0, 0)) = w8 := ⟨_, rfl⟩; have hb8 : Below w7.heap.size w7 w8 := (by rw [← hw8]; exact below_alloc (Below.refl _ _) _); have hK8 : w8.heap[w6.heap.size]? = some (.cells #[.slice none 0 0] 33 (0, 0)) := (by rw [← hw8, ← hs7]; exact heap_alloc_new _ _); have z8 := box1 ((hb8.block _ (blk_lt hK7)).trans hK7))
        refine ⟨trivial, (recipes_value _ _ _ _ _ _).mono ?_⟩
        rintro e w9 ⟨rfl, hw9⟩
        gi_wp2
        rw [← hw9]
        have hz5 : w5.heap.size = wr.heap.size + 1 := by rw [← hw5]; simp
        have hz6 : w6.heap.size = w5.heap.size + 1 := by rw [← hw6]; simp
        have hz8 : w8.heap.size = w7.heap.size + 1 := by rw [← hw8]; simp
        have hz9 : w9.heap.size = w8.heap.size + 2 := by rw [hw9]; simp
        have hb9 : Below w8.heap.size w8 w9 := by rw [hw9]; exact below_alloc (below_alloc (Below.refl _ _) _) _
        obtain ⟨hgc9, hgf9⟩ : w9.heap[w8.heap.size]? = some (.cells #[.pointer (some ⟨wr.heap.size, 0, none⟩)] 87 (0, 0)) ∧ w9.heap[w8.heap.size + 1]? = some (.cells #[.slice A1 fr.length c1] 33 (0, 0)) := by rw [hw9]; exact two_new _ _ _
        have hb7 : Below wr.heap.size wr w7 := (hb5.trans (hb6.mono (by omega))).grown hg7 (by omega) (fun k hk => by injection hk; omega)
        have hb79 : Below w7.heap.size w7 w9 := below_step hb8 hb9
        have hBr := below_step hb7 hb79
        have hg9 : w9.heap[wr.heap.size]? = some (.cells #[.slice A0 l.length c0, .bool false] 89 (0, 0)) := (hb79.block _ (by omega)).trans ((hg7.block _ (by omega) (by simp; omega)).trans ((hb6.block _ (by omega)).trans hK5))
        have hcv9 : Boxed w9 w5.heap.size 87 (.pointer (some ⟨wr.heap.size, 0, none⟩)) := (hb79.block _ (by omega)).trans hK7
        have hob9 : Boxed w9 w6.heap.size 33 (.slice none 0 0) := (hb9.block _ (by omega)).trans hK8
        have hout9 := out3_below ho1 hBr
        have hbc : b < c ∧ w.heap.size < b := ⟨ho1.2.2.2.2, ho1.2.2.2.1⟩
        have hcr : c < wr.heap.size := ho1.2.2.1.lt
        have hB9 : Below w.heap.size w w9 := below_step hB4.out hBr
        have hC9 := Kd.C_below hC hB9
        have hF9 := Kd.C_below hF hB9
        clear hw5 hw6 hw8 hw9 hb5 hb6 hb8 hb9 hb7 hb79 hBr hK5 hK6 hK7 hK8 hg7 z8 ho1 hF4 hB4
        generalize w5.heap.size = cv at *
        generalize w6.heap.size = ob at *
        generalize w8.heap.size = gc at *
        have hpos : 0 < l.length := by
          have h0 := hin 0 (by omega)
          unfold inL at h0
          have := (Bool.and_eq_true_iff.1 h0)
          have h2 := of_decide_eq_true this.1
          have h3 := of_decide_eq_true this.2
          omega
        have hl400 : l.length ≤ 400 := of_decide_eq_true (Bool.and_eq_true_iff.1 hr).2
        have hfr : ∀ x ∈ fr, 0 ≤ x ∧ x < l.length := fun x hx => by
          obtain ⟨j, hj, rfl⟩ := List.getElem_of_mem hx
          have h0 := hin j hj
          rw [rdI_nat fr j hj] at h0
          unfold inL at h0
          have := (Bool.and_eq_true_iff.1 h0)
          exact ⟨of_decide_eq_true this.1, of_decide_eq_true this.2⟩
        have hall : fr.all (inL l.length) = true := List.all_eq_true.2 fun x hx => by
          obtain ⟨h1, h2⟩ := hfr x hx
          unfold inL
          rw [decide_eq_true h1, decide_eq_true h2]
          rfl
        have hA0 : ∀ ad, A0 = some ad → ad.block < w.heap.size := C28_block hC hpos
        have hA1 : ∀ ad, A1 = some ad → ad.block < w.heap.size := CI_block hF (by omega)
        refine rangeFunc_open rfl (by omega) (gf := 67) (lb := #[.pointer (some ⟨gc + 1, 0, none⟩), .pointer (some ⟨gc, 0, none⟩)]) rfl trivial (enters_of Try.func67 (by kernel_rfl) rfl) ?_
        intro rdy busy fin hrdy hbusy hfin hround
        obtain ⟨L, hL⟩ : ∃ L, w9.heap.size = L := ⟨_, rfl⟩
        obtain ⟨w10, hw10⟩ : ∃ w10, (w9.alloc (.deferred (some []))).alloc rdy = w10 := ⟨_, rfl⟩
        have hb10 : Below w9.heap.size w9 w10 := by rw [← hw10]; exact below_alloc (below_alloc (Below.refl _ _) _) _
        have hnew : w10.heap[w9.heap.size]? = some (.deferred (some [])) ∧ w10.heap[w9.heap.size + 1]? = some rdy := by rw [← hw10]; exact two_new _ _ _
        have hJ0 : JR w b c wr.heap.size cv ob L rdy l [] w10 := ⟨(hb10.block _ hcv9.lt).trans hcv9, ⟨.slice none 0 0, (hb10.block _ hob9.lt).trans hob9, World.ownsRow_nil _ _ _ _⟩, out3_below hout9 hb10, rfl, below_step hB9 hb10, by rw [← hL]; exact hnew.2, by rw [← hL]; exact hnew.1⟩
        have hS0 : ItS wr.heap.size gc (gc + 1) A0 A1 c1 fr (l, false) w10 := itS_below ⟨⟨A0, c0, hg9, hc0, hC9, .inl rfl⟩, hgc9, hgf9, hF9⟩ hb10
        have hn : w.heap.size ≤ wr.heap.size ∧ c < wr.heap.size ∧ wr.heap.size < cv ∧ cv < ob ∧ ob < L := by omega
        have hord := Lib.hid (show ob < gc ∧ gc + 1 < L from by omega)
        replace hn := Lib.hid hn
        clear hz5 hz6 hz8 hz9
        rw [hL] at hround ⊢
        rw [hw10]
        have hY : ∀ D x W, (D ++ [x]) <+: items l fr → JR w b c wr.heap.size cv ob L rdy l D W → ItS wr.heap.size gc (gc + 1) A0 A1 c1 fr (stL (l, false) (D ++ [x])) W → YieldAt Fence.wide 1 Try.prog (L + 1) #[.int .i64 (stepI (stL (l, false) D) x).2] W fun e W' =>
            (e = .returned (.bool true) ∧ JR w b c wr.heap.size cv ob L rdy l (D ++ [x]) W' ∧ ItS wr.heap.size gc (gc + 1) A0 A1 c1 fr (stL (l, false) (D ++ [x])) W' ∧ Keep28 W W') ∨ (e = .returned (.bool false) ∧ JX w b c L fin l (D ++ [x]) W') := by
          intro D x W hp hJ hS
          refine hround _ W _ rfl hJ.2.2.2.2.2.1 ?_
          gi_wp2
          refine ⟨hJ.2.2.2.2.2.1, ?_⟩
          have hlen : (valsL (l, false) D).length ≤ 1000 := by
            have h1 := hp.length_le
            rw [items_len, List.length_append, List.length_singleton] at h1
            rw [valsL_len]
            have : fr.length * (fr.length * 4) ≤ 5 * (5 * 4) := Nat.mul_le_mul (by omega) (Nat.mul_le_mul (by omega) (Nat.le_refl _))
            omega
          have hvs : valsL (l, false) (D ++ [x]) = valsL (l, false) D ++ [(stepI (stL (l, false) D) x).2] := valsL_snoc x D _
          obtain ⟨val, hval⟩ : ∃ v, (stepI (stL (l, false) D) x).2 = v := ⟨_, rfl⟩
          rw [hval] at hvs ⊢
          obtain ⟨hcv, ⟨v, hob, hown⟩, hout, hfull, hB, hrd, hdf⟩ := hJ
          obtain ⟨vs, hvs2⟩ : ∃ vs, valsL (l, false) D = vs := ⟨_, rfl⟩
          rw [hvs2] at hvs hlen hown
          obtain ⟨Wb, hWb⟩ : ∃ Wb, W.putObj (L + 1) busy = Wb := ⟨_, rfl⟩
          have hL1 : L + 1 < W.heap.size := (Array.getElem?_eq_some_iff.1 hrd).1
          have hgb : W.grownBy Wb (some (L + 1)) := by rw [← hWb]; exact grownBy_putObj' _ _ _
          have hbz : Wb.heap[L + 1]? = some busy := by rw [← hWb]; exact World.putObj_heap_same hL1
          have hcvb : Boxed Wb cv 87 (.pointer (some ⟨wr.heap.size, 0, none⟩)) := hcv.kept hgb (by have := hn.out; simp; omega)
          have hobb : Boxed Wb ob 33 v := hob.kept hgb (by have := hn.out; simp; omega)
          have ho1 : Out3 w.heap.size b c (.slice none 0 0) (.slice none 0 0) (.int .i64 0) Wb := out3_kept hout hgb (by have := hn.out; omega)
          have hownb : Wb.ownsRow L 3 1 v vs.length (vs.map (Value.int .i64)) := by rw [← hWb]; exact ownsRow_putObj hown _ hrd hrdy.1
          obtain ⟨⟨A, cc, hbox, -⟩, -⟩ := id hS
          have hboxb := (hgb.block _ (blk_lt hbox) (by have := hn.out; simp; omega)).trans hbox
          have y1 := hcvb.cell
          have y2 := (box2 hboxb).2
          have hsz : W.heap.size ≤ Wb.heap.size := hgb.size
          rw [hWb]
          cases hs2 : (stL (l, false) (D ++ [x])).2 with
          | true =>
            rw [hs2] at y2
            gi_wp2_with (first | ((with_reducible refine gateIn_store (t := 23) (p := 4) rfl ?_); go_loud (refine wpListIn_storeBox rfl rfl 23 (.tmp 4) (.const (.slice none 0 0)) rfl (.slice none 0 0) [.slice none 0 0] rfl rfl rfl (by kernel_rfl) (by simp [Value.oneCell']) ho1.1 rfl ?_); intro W1 hK1 hg1 hs1; have ho2 := out3_a ho1 hK1 hg1; clear hK1 hs1) | ((with_reducible refine gateIn_store (t := 33) (p := 5) rfl ?_); go_loud (refine wpListIn_storeBox rfl rfl 33 (.tmp 5) (.const (.slice none 0 0)) rfl (.slice none 0 0) [.slice none 0 0] rfl rfl rfl (by kernel_rfl) (by simp [Value.oneCell']) ho2.2.1 rfl ?_); intro W2 hK2 hg2 hs2; have ho3 := out3_b ho2 hK2 hg2; clear hK2 hs2) | ((with_reducible refine gateIn_store (t := 29) (p := 6) rfl ?_); go_loud (refine wpListIn_storeBox rfl rfl 29 (.tmp 6) (.const (.int .i64 6)) rfl (.int .i64 6) [.int .i64 6] rfl rfl rfl (by kernel_rfl) (by simp [Value.oneCell']) ho3.2.2.1 rfl ?_); intro W3 hK3 hg3 hs3; have ho4 := out3_c ho3 hK3 hg3; clear hK3 hs3))
            have hnn := hn.out
            have hb3 : ∀ k o, W.heap.size ≤ Wb.heap.size → Wb.heap[k]? = some o → c < k → W3.heap[k]? = some o := fun k o _ hk hck => by
              have hlt := (Array.getElem?_eq_some_iff.1 hk).1
              exact (hg3.block k (Nat.lt_of_lt_of_le (Nat.lt_of_lt_of_le hlt hg1.size) hg2.size) (by simp; omega)).trans ((hg2.block k (Nat.lt_of_lt_of_le hlt hg1.size) (by simp; omega)).trans ((hg1.block k hlt (by simp; omega)).trans hk))
            have hL3 := hb3 _ _ hsz hbz (by omega)
            have hD3 := hb3 L _ hsz ((hgb.block L (by omega) (by simp)).trans hdf) (by omega)
            have hBb : Below w.heap.size w Wb := hB.grown hgb hB.size (fun k hk => by injection hk; omega)
            have hB3 := three_below hBb hBb.size (Nat.le_refl _) (by omega) (by omega) hg1 hg2 hg3
            exact ⟨hL3, .inr ⟨rfl, hs2, out3_kept ho4 (grownBy_putObj' _ _ _) (by omega), hB3.grown (grownBy_putObj' _ _ _) hB3.size (fun k hk => by injection hk; omega), World.putObj_heap_same (Array.getElem?_eq_some_iff.1 hL3).1, (World.putObj_heap_other (by omega)).trans hD3⟩⟩
          | false =>
            rw [hs2] at y2
            obtain ⟨i0, hi3, hz0, hz1, hz2⟩ := info_parts info_int3
            have y3 := hobb.cell
            have hnn := hn.out
            gi_wp2_with (first | (gi_at_builtin; go_loud (refine wpListIn_append_own _ rfl _ _ 33 rfl L 3 i0 (.int .i64 0) 1 8 Try.underlying33 hi3 hz0 hz1 hz2 rfl (by decide) _ _ _ rfl (hownb.alloc _) ⟨Wb.heap.size, 0, none⟩ 1 1 [.int .i64 val] rfl rfl (cell_one_new _ _ _) (by simp [Value.oneCell']) (by simp only [maxLen]; omega) (by omega) (by simp; omega) ?_); intro v' w1' hown' hgrow' _; obtain ⟨g', cap', rfl⟩ := ownsRow_succ hown'; have hob1 : Boxed w1' ob 33 v := (hobb.alloc _).kept hgrow' (own_ne hownb hobb (by decide))) | ((with_reducible refine gateIn_store (t := 33) (p := 10) rfl ?_); go_loud (refine wpListIn_storeBox rfl rfl 33 (.tmp 10) (.tmp 54) rfl (.slice (some ⟨g', 0, none⟩) (vs.length + 1) cap') [.slice (some ⟨g', 0, none⟩) (vs.length + 1) cap'] rfl rfl rfl (by kernel_rfl) (by simp [Value.oneCell']) hob1 rfl ?_); intro W3 hK3 hg3 hs3))
            have hob_k : ∀ k, v.ownBlock = some k → L ≤ k := own_base hown
            have halloc := World.grownBy_alloc Wb (.cells #[.int .i64 val] 3) none
            have hbz1 : w1'.heap[L + 1]? = some busy := (hgrow'.block (L + 1) (by simp; omega) (own_obj_ne hownb hbz hbusy.1)).trans ((halloc.block _ (by omega) (by simp)).trans hbz)
            have hbz3 : W3.heap[L + 1]? = some busy := (hg3.block (L + 1) (Array.getElem?_eq_some_iff.1 hbz1).1 (by simp; omega)).trans hbz1
            have hown3 := hown'.kept hg3 (.inr (own_ne hown' hob1 (by decide)).symm)
            have h3 : Same3 ob (L + 1) v.ownBlock W (W3.putObj (L + 1) rdy) :=
              (same3_of hgb (.inr (.inr (.inl rfl)))).trans ((same3_of halloc (.inl rfl)).trans ((same3_of hgrow' (.inr (.inr (.inr rfl)))).trans ((same3_of hg3 (.inr (.inl rfl))).trans (same3_of (grownBy_putObj' W3 (L + 1) rdy) (.inr (.inr (.inl rfl)))))))
            have hlow : ∀ k, k < L → k ≠ ob → k < W.heap.size → (W3.putObj (L + 1) rdy).heap[k]? = W.heap[k]? := fun k hk hne hlt => h3.block k hlt hne (by omega) (fun e => by have := hob_k k e.symm; omega)
            have hord2 := hord.out
            have hWL : w.heap.size ≤ W.heap.size := hB.size
            refine ⟨hbz3, .inl ⟨rfl, ⟨(hlow cv (by omega) (by omega) hcv.lt).trans hcv, ⟨_, (World.putObj_heap_other (by omega)).trans hK3, ?_⟩, out3_same3 hout h3 (by omega) (by omega) (fun k hk => by have := hob_k k hk; omega), hs2, h3.below hB hB.size (by omega) (by omega) (fun k hk => by have := hob_k k hk; omega), World.putObj_heap_same (Array.getElem?_eq_some_iff.1 hbz3).1, ?_⟩, ?_⟩⟩
            · rw [hvs]
              have := ownsRow_putObj hown3 rdy hbz3 hbusy.1
              rw [List.length_append, List.length_singleton, List.map_append]
              exact this
            · exact (h3.block L (by omega) (by omega) (by omega) (own_obj_ne hown hdf rfl)).trans hdf
            · refine itS_same hS h3 (fun _ ad e => hlow _ (by have := hA0 ad e; omega) (by have := hA0 ad e; omega) (by have := hA0 ad e; omega)) (fun _ ad e => hlow _ (by have := hA1 ad e; omega) (by have := hA1 ad e; omega) (by have := hA1 ad e; omega)) (fun k cur hk => ⟨?_, ?_, own_ne hown hk (by decide)⟩)
                ⟨by omega, by omega, fun e => by have := hob_k _ e.symm; omega⟩ ⟨by omega, by omega, fun e => by have := hob_k _ e.symm; omega⟩ ⟨by omega, by omega, fun e => by have := hob_k _ e.symm; omega⟩
              · rintro rfl
                have := hk.symm.trans (show W.heap[k]? = _ from hob)
                injection this with this
                injection this with _ this
                exact absurd this (by decide)
              · rintro rfl
                rw [hrd] at hk
                injection hk with hk
                have := hrdy.1
                rw [hk] at this
                cases this
        have main := recipes_in (L + 1) wr.heap.size gc (gc + 1) A0 A1 c1 l fr (by omega) hfr hl400 hwf hc1 (JR w b c wr.heap.size cv ob L rdy l) (JX w b c L fin l) (fun D W W' h hg => jr_kept hn.out h hg) hY w10 hJ0 hS0
        refine main.mono ?_
        rintro e W2 ⟨hv, ⟨hJ, hS⟩ | ⟨D, hD, hX⟩⟩
        · refine ⟨hv, .inl ⟨hJ.2.2.2.2.2.1, fun o ho1 ho2 => ?_⟩⟩
          obtain ⟨hcv, ⟨v, hob, hown⟩, hout, hfull, hB, hrd, hdf⟩ := hJ
          obtain ⟨⟨A, cc, hbox, hcc, hCA, hrowA⟩, -⟩ := id hS
          obtain ⟨Wz, hWz⟩ : ∃ Wz, W2.putObj (L + 1) o = Wz := ⟨_, rfl⟩
          have hgz : W2.grownBy Wz (some (L + 1)) := by rw [← hWz]; exact grownBy_putObj' _ _ _
          have hnn := hn.out
          have hcvz : Boxed Wz cv 87 (.pointer (some ⟨wr.heap.size, 0, none⟩)) := hcv.kept hgz (by simp; omega)
          have hobz : Boxed Wz ob 33 v := hob.kept hgz (by simp; omega)
          have y1 := hcvz.cell
          have y2 := (box2 ((hgz.block _ (blk_lt hbox) (by simp; omega)).trans hbox)).1
          have y3 := hobz.cell
          have houtz : Out3 w.heap.size b c (.slice none 0 0) (.slice none 0 0) (.int .i64 0) Wz := out3_kept hout hgz (by omega)
          have hCz : k28.C Wz A (stL (l, false) (items l fr)).1.length (stL (l, false) (items l fr)).1 := C28_obj hCA hrd hrdy.1 hgz
          have hownz : Wz.ownsRow L 3 1 v (valsL (l, false) (items l fr)).length ((valsL (l, false) (items l fr)).map (Value.int .i64)) := by rw [← hWz]; exact ownsRow_putObj hown o hrd hrdy.1
          obtain ⟨D, d, rfl, hvd, hCD, hDL⟩ := ownI_slice hownz rfl
          clear hownz
          have hrow3 : ∀ ad, A = some ad → ad.block ≠ w.heap.size ∧ ad.block ≠ b ∧ ad.block ≠ c := fun ad e => by
            rcases hrowA with rfl | hrA
            · have := hA0 ad e
              omega
            · obtain ⟨cu, hcu⟩ := hrA ad e
              exact ⟨fun e => by rw [e] at hcu; exact blk_ne hout.1 hcu (by decide) rfl, fun e => by rw [e] at hcu; exact blk_ne hout.2.1 hcu (by decide) rfl, fun e => by rw [e] at hcu; exact blk_ne hout.2.2.1 hcu (by decide) rfl⟩
          have hBz : Below w.heap.size w Wz := hB.grown hgz hB.size (fun k hk => by injection hk; omega)
          have hdz : Wz.heap[L]? = some (.deferred (some [])) := (hgz.block L (Array.getElem?_eq_some_iff.1 hdf).1 (by simp)).trans hdf
          have hans : recR l fr = ((stL (l, false) (items l fr)).1, valsL (l, false) (items l fr), 0) := by
            unfold recR
            rw [if_pos hr, if_neg (by omega), if_pos hall, if_neg (by rw [hfull]; decide)]
          rw [hWz]
          clear hWz hgz hCA hbox hown hob hcv hout hdf hrd hB hS hround hY main hJ0 hS0 hnew hb10 hw10 hC9 hF9 hB9 hout9 hob9 hcv9 hg9 hgc9 hgf9 hcvz hobz
          generalize (stL (l, false) (items l fr)).1 = ms at hCz hcc y2 hans
          generalize valsL (l, false) (items l fr) = vs at hans hvd hCD y3
          obtain ⟨q1, q2, q3, q4, q5⟩ := houtz
          have x1 := q1.cell
          have x2 := q1.frozen
          have r2 := boxed_other (W := Wz) q2 (by omega : b ≠ w.heap.size) (.slice A ms.length cc)
          have x3 := r2.cell
          have x4 := r2.frozen
          have r3 := boxed_other (boxed_other (W := Wz) q3 (by omega : c ≠ w.heap.size) (.slice A ms.length cc)) (by omega : c ≠ b) (.slice D vs.length d)
          have x5 := r3.cell
          have x6 := r3.frozen
          have hrowz : ∀ ad, A = some ad → ad.block ≠ w.heap.size ∧ ad.block ≠ b ∧ ad.block ≠ c := hrow3
          obtain ⟨f1, f2, f3⟩ := fin3 (.slice A ms.length cc) (.slice D vs.length d) (.int .i64 0) (⟨q1, q2, q3, q4, q5⟩ : Out3 _ _ _ _ _ _ Wz)
          gi_wp2
          gi_region
          generalize (((Wz.setCell ⟨w.heap.size, 0, none⟩ (Value.slice A ms.length cc)).setCell ⟨b, 0, none⟩ (Value.slice D vs.length d)).setCell ⟨c, 0, none⟩ (Value.int IntKind.i64 0)).drew = Wf at f1 f2 f3 ⊢
          clear x1 x2 x3 x4 x5 x6 r2 r3 y1 y2 y3
          gi_wp2
          have g2 : Wf.grownBy (Wf.putObj L (.deferred none)) (some L) := grownBy_putObj' _ _ _
          have f1' := out3_kept f1 g2 (by omega)
          have hBf := f3 _ _ hBz (Nat.le_refl _)
          refine leaves_mark ((f2 L (by omega) (by omega) (by omega)).trans hdz) (results_34 _ _ rfl rfl rfl f1'.1.cell f1'.2.1.cell f1'.2.2.1.cell) ?_
          rw [hans]
          refine ⟨⟨A, cc, D, d, rfl, hcc, hvd, ?_, ?_⟩, hBf.grown g2 hBf.size (fun k hk => by injection hk; omega)⟩
          · exact C28_obj (C28_same hCz fun ad e _ => f2 _ (hrowz ad e).1 (hrowz ad e).2.1 (hrowz ad e).2.2) ((f2 L (by omega) (by omega) (by omega)).trans hdz) rfl g2
          · exact CI_same hCD fun ad e hn => by
              have hn' : 0 < vs.length := hn
              have := hDL ad e
              have hne : ad.block ≠ L := by
                intro e2
                obtain ⟨ad', e', q0⟩ := Kd.at_int hCD 0 (by omega) (by omega)
                rw [e] at e'
                injection e' with e'
                subst e'
                obtain ⟨o', h1, h2⟩ := cells_of_cell q0
                rw [add_blk, e2, hdz] at h1
                injection h1 with h1
                rw [← h1] at h2
                cases h2
              exact (World.putObj_heap_other hne).trans (f2 _ (by omega) (by omega) (by omega))
        · refine ⟨hv, .inr ⟨.ret, hX.2.2.2.1, fun o ho1 ho2 => ?_⟩⟩
          gi_wp2
          obtain ⟨hx1, hx2, hx3, hx4, hx5⟩ := hX
          have hnn := hn.out
          have hans : recR l fr = ([], [], 6) := by
            unfold recR
            rw [if_pos hr, if_neg (by omega), if_pos hall, if_pos (full_final hD hx1)]
          have g1 : W2.grownBy (W2.putObj (L + 1) o) (some (L + 1)) := grownBy_putObj' _ _ _
          have g2 : (W2.putObj (L + 1) o).grownBy ((W2.putObj (L + 1) o).putObj L (.deferred none)) (some L) := grownBy_putObj' _ _ _
          have hx2' := out3_kept (out3_kept hx2 g1 (by omega)) g2 (by omega)
          refine leaves_mark ((World.putObj_heap_other (by omega)).trans hx5) (results_34 _ _ rfl rfl rfl hx2'.1.cell hx2'.2.1.cell hx2'.2.2.1.cell) ?_
          rw [hans]
          exact ⟨recE_bad _ _, (hx3.grown g1 hx3.size (fun k hk => by injection hk; omega)).grown g2 (Nat.le_trans hx3.size g1.size) (fun k hk => by injection hk; omega)⟩
end Go.Proofs.Ytenmmeehgnkcpaa.Q
