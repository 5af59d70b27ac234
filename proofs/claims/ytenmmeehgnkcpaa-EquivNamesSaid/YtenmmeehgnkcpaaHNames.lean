/- A frame and another one of other names: lists that are made alike, side by side.
   Conditions: there is room for all of them. -/
import Derived.Test.YtenmmeehgnkcpaaHSim
import Derived.Test.YtenmmeehgnkcpaaHRefBase
import Derived.Test.YtenmmeehgnkcpaaQx140
import Derived.Test.YtenmmeehgnkcpaaQx141
import Derived.Maps.AppendAt
namespace Go.Proofs.Ytenmmeehgnkcpaa.Q
open Go.RowKit Go.Proofs.YtenmmeehgnkcpaaW.PrintWords Go.Proofs.YtenmmeehgnkcpaaW.PrintLast Go.Proofs.YtenmmeehgnkcpaaW.PrintMore
set_option linter.unusedVariables false
set_option linter.unusedSimpArgs false

def absZ (x : Int) : Int := mx x (wrap64 (-(wrap64 (x + 1))))
theorem absZ_range {x : Int} (h0 : -9223372036854775808 ≤ x) (h1 : x < 9223372036854775808) : 0 ≤ absZ x ∧ absZ x < 9223372036854775808 := by
  unfold absZ mx wrap64
  split <;> omega
theorem absZ_le {x b : Int} (hb : 0 ≤ b) (h0 : -b ≤ x) (h1 : x ≤ b) (hx : b < 9223372036854775808) : absZ x ≤ b := by
  unfold absZ mx wrap64
  split <;> omega
theorem abs_calls (x : Int) (w : World) : Calls Try.prog 40 #[.int .i64 x] w fun e w' => e = .returned (.int .i64 (absZ x)) ∧ Below w.heap.size w w' :=
  demurrallaw22_abs.calls x _ w rfl
theorem placeN_l0 (l : List S28) (hl : l.length ≤ 1000000) (t : S28) : ∀ (m k i : Nat), i + m = l.length → m < k → (∀ j (h : j < l.length), j < i → eqT t l[j] = false) →
    demurrallaw22_place.l0 k l (l.length : Int) (i : Int) t.f0 t.f1 t.f2 t.f3 = some (idxT l t) := by
  intro m
  induction m with
  | zero =>
    intro k i hi hk hn
    obtain ⟨k, rfl⟩ : ∃ k', k = k' + 1 := ⟨k - 1, by omega⟩
    rw [demurrallaw22_place.l0, if_neg (by omega)]
    unfold idxT idxN
    rw [if_neg]
    intro h
    have h1 := List.findIdx_getElem (p := fun x => eqT t x) (w := h)
    rw [hn _ h (by omega)] at h1
    cases h1
  | succ m ih =>
    intro k i hi hk hn
    obtain ⟨k, rfl⟩ : ∃ k', k = k' + 1 := ⟨k - 1, by omega⟩
    rw [demurrallaw22_place.l0, if_pos (by omega), if_pos (by omega), if_pos (by omega), rd28_nat l i (by omega), nx i (by omega)]
    have hc : ∀ a b : Int, (a == b) = (b == a) := by
      intro a b
      by_cases h : a = b
      · rw [h]
      · rw [beq_eq_false_iff_ne.2 h, beq_eq_false_iff_ne.2 (fun e => h e.symm)]
    have he : (l[i].f0 == t.f0 && (l[i].f1 == t.f1 && (l[i].f2 == t.f2 && l[i].f3 == t.f3))) = eqT t l[i] := by
      unfold eqT
      rw [hc l[i].f0, hc l[i].f1, hc l[i].f2, hc l[i].f3]
    by_cases h : eqT t l[i] = true
    · rw [if_pos (he.trans h)]
      congr 1
      unfold idxT idxN
      have hf : l.findIdx (fun x => eqT t x) = i := by
        rw [List.findIdx_eq (by omega)]
        exact ⟨h, fun j hj => hn j (by omega) hj⟩
      rw [hf, if_pos (by omega)]
    · rw [if_neg (by rw [he]; exact h), ih k (i + 1) (by omega) (by omega) (fun j h' hj => by
        rcases Nat.lt_or_ge j i with h2 | h2
        · exact hn j h' h2
        · obtain rfl : j = i := by omega
          exact Bool.eq_false_iff.2 h)]
theorem place_calls (A : Option Addr) (c : Nat) (l : List S28) (t : S28) (w : World) (hC : k28.C w A l.length l) (hc : l.length ≤ c) (hl : l.length ≤ 1000000) :
    Calls Try.prog 41 #[.slice A l.length c, .agg #[.int .i64 t.f0, .int .u64 t.f1, .int .i64 t.f2, .int .i64 t.f3]] w fun e w' => e = .returned (.int .i64 (idxT l t)) ∧ Below w.heap.size w w' :=
  demurrallaw22_place.calls (l.length + 1) A c l t.f0 t.f1 t.f2 t.f3 _ w hC hc (by
    unfold demurrallaw22_place.f
    exact placeN_l0 l hl t l.length _ 0 (by omega) (by omega) (fun j _ hj => absurd hj (Nat.not_lt_zero _)))
/-- A term of a kind, of two places. -/
def mkT (f x y : Int) : S28 := ⟨f, 0, if f = 2 then mn x y else x, if f = 1 ∨ f = 3 then 0 else if f = 2 then mx x y else y⟩
theorem mkT_made {f x y n : Int} (hf0 : 1 ≤ f) (hf1 : f ≤ 6) (hx0 : 0 ≤ x) (hx1 : x < n) (hy0 : 0 ≤ y) (hy1 : y < n) : madeB n (turnT (mkT f x y)) = true ∧ turnT (mkT f x y) = mkT f x y := by
  have ht : turnT (mkT f x y) = mkT f x y := by
    unfold turnT
    rw [if_neg]
    rintro ⟨h1, h2⟩
    have h1' : f = 2 := h1
    simp only [mkT, h1', if_true] at h2
    unfold mn mx at h2
    revert h2
    simp
    split <;> omega
  refine ⟨?_, ht⟩
  rw [ht, madeB_iff]
  have hc : f = 1 ∨ f = 2 ∨ f = 3 ∨ f = 4 ∨ f = 5 ∨ f = 6 := by omega
  rcases hc with rfl | rfl | rfl | rfl | rfl | rfl <;> simp [mkT, mn, mx] <;> (try split) <;> omega
theorem mkT_rel {R : Int → Int → Prop} {f x y x' y' : Int} (h : R x x') (k : R y y') : RelT R (mkT f x y) (mkT f x' y') := by
  refine ⟨rfl, fun _ => rfl, fun hf => ?_, fun hf => ?_, fun hf => ?_⟩
  · have hf : f = 1 ∨ f = 3 := hf
    simp only [mkT]
    rw [if_neg (by omega), if_neg (by omega)]
    exact h
  · have hf : f = 4 ∨ f = 5 ∨ f = 6 := hf
    simp only [mkT]
    rw [if_neg (by omega), if_neg (by omega), if_neg (by omega), if_neg (by omega), if_neg (by omega), if_neg (by omega)]
    exact ⟨h, k⟩
  · have hf : f = 2 := hf
    subst hf
    simp only [mkT, if_true]
    rw [if_neg (by omega), if_neg (by omega)]
    have hm : ∀ a b : Int, a ≤ b → mn a b = a ∧ mx a b = b := fun a b h => by
      unfold mn mx
      constructor
      · split <;> omega
      · split <;> omega
    have hw : ∀ a b : Int, ¬ a ≤ b → mn a b = b ∧ mx a b = a := fun a b h => by
      unfold mn mx
      constructor
      · split <;> omega
      · split <;> omega
    by_cases a : x ≤ y <;> by_cases b : x' ≤ y'
    · rw [(hm _ _ a).1, (hm _ _ a).2, (hm _ _ b).1, (hm _ _ b).2]; exact .inl ⟨h, k⟩
    · rw [(hm _ _ a).1, (hm _ _ a).2, (hw _ _ b).1, (hw _ _ b).2]; exact .inr ⟨h, k⟩
    · rw [(hw _ _ a).1, (hw _ _ a).2, (hm _ _ b).1, (hm _ _ b).2]; exact .inr ⟨k, h⟩
    · rw [(hw _ _ a).1, (hw _ _ a).2, (hw _ _ b).1, (hw _ _ b).2]; exact .inl ⟨k, h⟩
/-- A term's list and place: where it is not there, at the end. -/
def putL (l : List S28) (t : S28) : List S28 := if 0 ≤ idxT l t then l else l ++ [t]
def putI (l : List S28) (t : S28) : Int := if 0 ≤ idxT l t then idxT l t else (l.length : Int)
theorem addR_put {l : List S28} {t : S28} (hr : rightB l = true) (hm : madeB (l.length : Int) (turnT t) = true) (ht : turnT t = t) (hlt : l.length < 400) : addR l t = (putL l t, putI l t, 0) := by
  unfold addR putL putI
  rw [ht] at hm ⊢
  rw [if_pos hr, if_pos hm]
  by_cases hi : 0 ≤ idxT l t
  · rw [if_pos hi, if_pos hi, if_pos hi]
  · rw [if_neg hi, if_neg hi, if_neg hi, if_neg (by omega)]
theorem Sim.laterL {R : Int → Int → Prop} {la la' lb : List S28} (h : Sim R la lb) (hp : la <+: la') : Sim R la' lb :=
  ⟨h.fn, h.inj, fun i j r => by obtain ⟨a, b, c, d⟩ := h.rng i j r; exact ⟨a, (rd_pre hp i a b).2, c, d⟩, fun i j r => by obtain ⟨a, b, c, d⟩ := h.rng i j r; rw [(rd_pre hp i a b).1]; exact h.rel i j r⟩
theorem wf_mk {f x y : Int} (hf0 : 1 ≤ f) (hf1 : f ≤ 6) (hx0 : 0 ≤ x) (hx1 : x < 400) (hy0 : 0 ≤ y) (hy1 : y < 400) : wfT (mkT f x y) := by
  have hi : ∀ n : Int, 0 ≤ n → n < 1000 → (Lit.int .i64 n).wf = true := fun n h0 h1 => by
    have e1 : IntKind.i64.min = -9223372036854775808 := rfl
    have e2 : IntKind.i64.max = 9223372036854775807 := rfl
    simp only [Lit.wf, Bool.and_eq_true, decide_eq_true_eq]
    omega
  refine ⟨hi _ (by show 0 ≤ f; omega) (by show f < 1000; omega), rfl, hi _ ?_ ?_, hi _ ?_ ?_⟩ <;> simp only [mkT, mn, mx] <;> (repeat' split) <;> omega
/-- What the loop keeps: two lists of places, side by side. -/
structure Two (n : Nat) (l : List S28) (p q : List Int) : Prop where
  right : rightB l = true
  wf : ∀ t ∈ l, wfT t
  six : 6 ≤ l.length
  len : l.length ≤ 6 + 2 * n
  plen : p.length = 3 + n
  qlen : q.length = 3 + n
  sim : ∃ R, Sim R l l ∧ All2 R p q
theorem Two.prng {n : Nat} {l : List S28} {p q : List Int} (h : Two n l p q) (i : Nat) (hi : i < 3 + n) : (0 ≤ rd p (i : Int) ∧ rd p (i : Int) < l.length) ∧ 0 ≤ rd q (i : Int) ∧ rd q (i : Int) < l.length := by
  obtain ⟨R, S, hA⟩ := h.sim
  have h1 := hA.get i (by have := h.plen; omega) (by have := h.qlen; omega)
  rw [rdI_nat p i (by have := h.plen; omega), rdI_nat q i (by have := h.qlen; omega)]
  have := S.rng _ _ h1
  omega
theorem putL_ok {l : List S28} {t : S28} (hr : rightB l = true) (hm : madeB (l.length : Int) (turnT t) = true) (ht : turnT t = t) (hlt : l.length < 400) (hwf : ∀ t ∈ l, wfT t) (hw : wfT t) :
    rightB (putL l t) = true ∧ l <+: putL l t ∧ (putL l t).length ≤ l.length + 1 ∧ ∀ t' ∈ putL l t, wfT t' := by
  obtain ⟨-, h2, h3, h4, -⟩ := addR_made hr hm hlt
  rw [addR_put hr hm ht hlt] at h2 h3 h4
  refine ⟨h2, h3, h4, fun t' ht' => ?_⟩
  unfold putL at ht'
  split at ht'
  · exact hwf _ ht'
  · rcases List.mem_append.1 ht' with h | h
    · exact hwf _ h
    · rw [List.mem_singleton.1 h]; exact hw
/-- Half a round: a term of the first side. -/
theorem Two.half {n : Nat} {l : List S28} {p q : List Int} (h : Two n l p q) (hn : n ≤ 100) {f : Int} (hf0 : 1 ≤ f) (hf1 : f ≤ 6) {i0 i1 : Nat} (h0 : i0 < 3 + n) (h1 : i1 < 3 + n) :
    rightB (putL l (mkT f (rd p (i0 : Int)) (rd p (i1 : Int)))) = true ∧ l <+: putL l (mkT f (rd p (i0 : Int)) (rd p (i1 : Int))) ∧ (putL l (mkT f (rd p (i0 : Int)) (rd p (i1 : Int)))).length ≤ l.length + 1 ∧ (∀ t' ∈ putL l (mkT f (rd p (i0 : Int)) (rd p (i1 : Int))), wfT t') := by
  have a0 := h.prng i0 h0
  have a1 := h.prng i1 h1
  have hl := h.len
  obtain ⟨m1, m2⟩ := mkT_made hf0 hf1 a0.1.1 a0.1.2 a1.1.1 a1.1.2
  exact putL_ok h.right m1 m2 (by omega) h.wf (wf_mk hf0 hf1 a0.1.1 (by omega) a1.1.1 (by omega))
theorem Two.step {n : Nat} {l : List S28} {p q : List Int} (h : Two n l p q) (hn : n ≤ 100) {f : Int} (hf0 : 1 ≤ f) (hf1 : f ≤ 6) {i0 i1 : Nat} (h0 : i0 < 3 + n) (h1 : i1 < 3 + n) {l1 : List S28} {j : Int}
    (hl1 : putL l (mkT f (rd p (i0 : Int)) (rd p (i1 : Int))) = l1) (hj : putI l (mkT f (rd p (i0 : Int)) (rd p (i1 : Int))) = j) :
    Two (n + 1) (putL l1 (mkT f (rd q (i0 : Int)) (rd q (i1 : Int)))) (p ++ [j]) (q ++ [putI l1 (mkT f (rd q (i0 : Int)) (rd q (i1 : Int)))]) := by
  have a0 := h.prng i0 h0
  have a1 := h.prng i1 h1
  have hl := h.len
  obtain ⟨m1, m2⟩ := mkT_made hf0 hf1 a0.1.1 a0.1.2 a1.1.1 a1.1.2
  obtain ⟨o1, o2, o3, o4⟩ := putL_ok h.right m1 m2 (by omega) h.wf (wf_mk hf0 hf1 a0.1.1 (by omega) a1.1.1 (by omega))
  have e1 := addR_put h.right m1 m2 (by omega)
  obtain ⟨R, S, hA⟩ := h.sim
  have g0 := hA.get i0 (by have := h.plen; omega) (by have := h.qlen; omega)
  have g1 := hA.get i1 (by have := h.plen; omega) (by have := h.qlen; omega)
  rw [← rdI_nat p i0 (by have := h.plen; omega), ← rdI_nat q i0 (by have := h.qlen; omega)] at g0
  rw [← rdI_nat p i1 (by have := h.plen; omega), ← rdI_nat q i1 (by have := h.qlen; omega)] at g1
  have hrel := mkT_rel (f := f) g0 g1
  have hk : (mkT f (rd p (i0 : Int)) (rd p (i1 : Int))).f0 ≠ 0 := by show f ≠ 0; omega
  generalize mkT f (rd p (i0 : Int)) (rd p (i1 : Int)) = t at *
  subst hl1 hj
  have hle := o2.length_le
  obtain ⟨k1, k2⟩ := mkT_made (n := ((putL l t).length : Int)) hf0 hf1 a0.2.1 (by omega) a1.2.1 (by omega)
  obtain ⟨b1, b2, b3, b4⟩ := putL_ok o1 k1 k2 (by omega) o4 (wf_mk hf0 hf1 a0.2.1 (by omega) a1.2.1 (by omega))
  have e2 := addR_put o1 k1 k2 (by omega)
  generalize mkT f (rd q (i0 : Int)) (rd q (i1 : Int)) = u at *
  obtain ⟨R', r1, r2, r3⟩ := sim_add (S.later o2) h.right o1 hrel hk m1 k1 (by omega) (by omega)
  rw [e1, e2] at r2 r3
  have hpl := h.plen
  have hql := h.qlen
  have h6 := h.six
  have hle2 := b2.length_le
  exact ⟨b1, b4, by omega, by omega, by rw [List.length_append, List.length_singleton]; omega, by rw [List.length_append, List.length_singleton]; omega, R', r2.laterL b2, (hA.imp r1).append (.cons r3 .nil)⟩
def namesL (n : Nat) : List S28 := (List.range n).map fun i => ⟨0, ((i : Nat) : Int) + 1, 0, 0⟩
theorem Two.start : Two 0 (namesL 6) [0, 1, 2] [3, 4, 5] := by
  refine ⟨by kernel_rfl, ?_, by decide, by decide, rfl, rfl, fun i j => 0 ≤ i ∧ i < 3 ∧ j = i + 3, ⟨?_, ?_, ?_, ?_⟩, .cons (by omega) (.cons (by omega) (.cons (by omega) .nil))⟩
  · intro t ht
    simp only [namesL, List.mem_map, List.mem_range] at ht
    obtain ⟨i, hi, rfl⟩ := ht
    refine ⟨rfl, ?_, rfl, rfl⟩
    have e1 : IntKind.u64.min = 0 := rfl
    have e2 : IntKind.u64.max = 18446744073709551615 := rfl
    simp only [Lit.wf, Bool.and_eq_true, decide_eq_true_eq]
    omega
  · intro i j j' h h'; omega
  · intro i i' j h h'; omega
  · intro i j h
    have : (namesL 6).length = 6 := rfl
    omega
  · intro i j h
    have hz : ∀ k : Nat, k < 6 → (rd_T28 (namesL 6) (k : Int)).f0 = 0 := fun k hk => by
      rw [rd28_nat (namesL 6) k hk]
      simp [namesL]
    obtain ⟨k, rfl⟩ : ∃ k : Nat, i = (k : Int) := ⟨i.toNat, by omega⟩
    obtain ⟨m, rfl⟩ : ∃ m : Nat, j = (m : Int) := ⟨j.toNat, by omega⟩
    have z1 := hz k (by omega)
    have z2 := hz m (by omega)
    exact ⟨by rw [z1, z2], fun h => absurd z1 h, fun h => by omega, fun h => by omega, fun h => by omega⟩
/-- The answer: where there are frames, they can't be told apart. -/
theorem Two.ends {n : Nat} {l : List S28} {p q : List Int} (h : Two n l p q) (hn : n ≤ 8) (is : List Nat) (hi : ∀ i ∈ is, i < 3 + n) (h5 : is.length ≤ 5) :
    staticR l (is.map fun i => rd p ((i : Nat) : Int)) (is.map fun i => rd q ((i : Nat) : Int)) = if is.length = 0 then (false, 2) else (true, 0) := by
  by_cases h0 : is.length = 0
  · rw [if_pos h0]
    obtain rfl := List.eq_nil_of_length_eq_zero h0
    have : recR l [] = ([], [], 2) := by
      unfold recR
      rw [if_pos h.right, if_pos (.inl (by decide))]
    have hb : bothR l [] [] = ([], [], 2) := both_eq l [] [] _ this
    show staticR l [] [] = _
    unfold staticR apartR
    rw [hb]
    rfl
  · rw [if_neg h0]
    obtain ⟨R, S, hA⟩ := h.sim
    have hl := h.len
    refine static_sim S ?_ h.right (by rw [List.length_map]; omega) (by omega)
    clear h0 h5
    induction is with
    | nil => exact .nil
    | cons i is ih =>
      refine .cons ?_ (ih fun j hj => hi j (List.mem_cons_of_mem _ hj))
      have hii := hi i (List.mem_cons_self ..)
      show R (rd p (i : Int)) (rd q (i : Int))
      rw [rdI_nat p i (by have := h.plen; omega), rdI_nat q i (by have := h.qlen; omega)]
      exact hA.get i (by have := h.plen; omega) (by have := h.qlen; omega)
/-! ### The rows -/
theorem own_lt {W : World} {base e size n k : Nat} {v : Value} {xs : List Value} (h : W.ownsRow base e size v n xs) (hk : v.ownBlock = some k) : k < W.heap.size := by
  rcases h.2 with ⟨rfl, _⟩ | ⟨b, cap, cu, rfl, _, hb, _⟩
  · simp [Value.ownBlock] at hk
  · obtain rfl : b = k := by simpa [Value.ownBlock] using hk
    exact blk_lt hb
theorem own_two {W : World} {base base' e e' size size' n n' : Nat} {v v' : Value} {xs xs' : List Value} (h : W.ownsRow base e size v n xs) (h' : W.ownsRow base' e' size' v' n' xs') (he : e ≠ e') : v.ownBlock = none ∨ v.ownBlock ≠ v'.ownBlock := by
  rcases h.2 with ⟨rfl, _⟩ | ⟨b, cap, cu, rfl, _, hb, _⟩
  · left; simp [Value.ownBlock]
  · right
    exact own_ne h' hb he
theorem own_on {W W' : World} {base e size n : Nat} {v : Value} {xs : List Value} (h : W.ownsRow base e size v n xs) (hb : Below W.heap.size W W') : W'.ownsRow base e size v n xs :=
  h.kept (below_grown hb) (by cases v.ownBlock <;> simp)
theorem ownI_C {W : World} {base n c : Nat} {D : Option Addr} {xs : List Int} (h : W.ownsRow base 3 1 (.slice D n c) n (xs.map (Value.int .i64))) (hn : n = xs.length) : n ≤ c ∧ (Kd.int .i64).C W D n xs := by
  obtain ⟨D', c', e, h1, h2, _⟩ := ownI_slice h hn
  injection e with e1 e2 e3
  subst e1 e3
  exact ⟨h1, h2⟩
section
variable {ops : Array Oper} {rest : List Oper} {o : Oper} {a : Act} {Q : Exit → Act → World → Prop} {W : World}
theorem run_app3 {base g : Nat} {v : Value} {xs : List Int} (x : Int) (h : W.ownsRow base 3 1 v xs.length (xs.map (Value.int .i64))) (hb : base ≤ W.heap.size) (hx : xs.length ≤ 1000000) (hg : W.heap[g]? = some (.cells #[.int .i64 x] 3 (0, 0))) :
    ∃ D d W', (Builtin.append_ #[33, 33] 33 #[v, .slice (some ⟨g, 0, none⟩) 1 1]).run Try.prog W = .ok (.slice D (xs.length + 1) d) W' ∧ W'.ownsRow base 3 1 (.slice D (xs.length + 1) d) (xs ++ [x]).length ((xs ++ [x]).map (Value.int .i64)) ∧ W.grownBy W' v.ownBlock ∧
      ((Value.slice D (xs.length + 1) d).ownBlock = v.ownBlock ∨ (Value.slice D (xs.length + 1) d).ownBlock = some W.heap.size) := by
  obtain ⟨i0, hi, hz0, hz1, hz2⟩ := info_parts info_int3
  obtain ⟨v', W', hr, ho, hgr, _, hat⟩ := run_append_own_at (P := Try.prog) W base 33 33 3 i0 (.int .i64 0) 1 8 Try.underlying33 hi hz0 hz1 hz2 rfl (by decide) v xs.length _ h ⟨g, 0, none⟩ 1 1 [.int .i64 x] rfl
    (fun j u hu => by
      obtain ⟨rfl, rfl⟩ : j = 0 ∧ u = .int .i64 x := by
        rcases j with _ | j
        · exact ⟨rfl, by simpa using hu.symm⟩
        · simp at hu
      exact box1 hg) (by simp [Value.oneCell']) (by simp only [maxLen]; omega) (by omega) hb
  have hlen : (xs ++ [x]).length = xs.length + 1 := by simp
  obtain ⟨g', cap', rfl⟩ := ownsRow_succ ho
  rw [hlen]
  refine ⟨_, _, W', hr, ?_, hgr, hat⟩
  rw [List.map_append]
  exact ho
theorem run_app28 {base g : Nat} {v : Value} {l : List S28} (t : S28) (h : W.ownsRow base 28 4 v l.length (l.flatMap cellsT)) (hb : base ≤ W.heap.size) (hx : l.length ≤ 1000000) (hg : W.heap[g]? = some (.cells #[.int .i64 t.f0, .int .u64 t.f1, .int .i64 t.f2, .int .i64 t.f3] 28 (0, 0))) :
    ∃ D d W', (Builtin.append_ #[23, 23] 23 #[v, .slice (some ⟨g, 0, none⟩) 1 1]).run Try.prog W = .ok (.slice D (l.length + 1) d) W' ∧ W'.ownsRow base 28 4 (.slice D (l.length + 1) d) (l ++ [t]).length ((l ++ [t]).flatMap cellsT) ∧ W.grownBy W' v.ownBlock := by
  obtain ⟨i0, hi, hz0, hz1, hz2⟩ := info_parts info28
  obtain ⟨v', W', hr, ho, hgr, _⟩ := run_append_own_at (P := Try.prog) W base 23 23 28 i0 (.agg #[(.int .i64 0), (.int .u64 0), (.int .i64 0), (.int .i64 0)]) 4 32 Try.underlying23 hi hz0 hz1 hz2 rfl (by decide) v l.length _ h ⟨g, 0, none⟩ 1 1 (cellsT t) rfl
    (fun j u hu => by rw [Addr.add_lit, blk_cell hg, Nat.zero_add]; simpa [cellsT] using hu) (fun x hx => cellsT_one [t] x (by simpa using hx)) (by simp only [maxLen]; omega) (by omega) hb
  have hlen : (l ++ [t]).length = l.length + 1 := by simp
  obtain ⟨g', cap', rfl⟩ := ownsRow_succ ho
  rw [hlen]
  refine ⟨_, _, W', hr, ?_, hgr⟩
  rw [show (l ++ [t]).flatMap cellsT = l.flatMap cellsT ++ cellsT t by simp]
  exact ho
theorem wp_app (hgd : o.guard = none) (s x : Operand) {t : TypeId} {vs vx v1 : Value} {w1 : World}
    (ho : o.op = .call { callee := .builtin .append, args := #[s, x], argTypes := #[t, t] }) (hs : a.eval s = vs) (hx : a.eval x = vx) (hr : (Builtin.append_ #[t, t] o.type #[vs, vx]).run Try.prog W = .ok v1 w1) (h : wpList Try.prog ops Q rest (a.put o.dst v1) w1) :
    wpList Try.prog ops Q (o :: rest) a W := by
  refine wpList_plain hgd fun K hK => ?_
  unfold Oper.wp execOp
  simp only [ho, resolve, invoke, builtin, Sem.run_bind, Sem.run_pure, Result.andThen_ok, List.map_toArray, List.map_cons, List.map_nil, hs, hx, hr]
  exact hK _ _ h
end
/-- The two lists' slices, in the box: first the one of the side that is under way. -/
def pairV (s : Nat) (v u : Value) : Array Value := if s = 0 then #[v, u] else #[u, v]
theorem pair_size (v u : Value) {s : Nat} (hs : s < 2) : s + 1 ≤ (pairV s v u).size := by
  rcases (show s = 0 ∨ s = 1 by omega) with rfl | rfl
  · exact Nat.le_of_ble_eq_true rfl
  · exact Nat.le_refl _
structure OwnS (W : World) (base g s : Nat) (lv : Value) (l : List S28) (v : Value) (p : List Int) (u : Value) (q : List Int) : Prop where
  rl : W.ownsRow base 28 4 lv l.length (l.flatMap cellsT)
  rp : W.ownsRow base 3 1 v p.length (p.map (Value.int .i64))
  rq : W.ownsRow base 3 1 u q.length (q.map (Value.int .i64))
  box : W.heap[g]? = some (.cells (pairV s v u) 65 (0, 0))
  ne : u.ownBlock = none ∨ u.ownBlock ≠ v.ownBlock
  le : base ≤ g
theorem OwnS.on {W W' : World} {base g s : Nat} {lv : Value} {l : List S28} {v : Value} {p : List Int} {u : Value} {q : List Int} (h : OwnS W base g s lv l v p u q) (hb : Below W.heap.size W W') : OwnS W' base g s lv l v p u q :=
  ⟨own_on h.rl hb, own_on h.rp hb, own_on h.rq hb, (hb.block _ (blk_lt h.box)).trans h.box, h.ne, h.le⟩
theorem OwnS.below {W W' : World} {base g s n : Nat} {lv : Value} {l : List S28} {v : Value} {p : List Int} {u : Value} {q : List Int} (h : OwnS W base g s lv l v p u q) (hb : Below n W W') (hn : W.heap.size ≤ n) : OwnS W' base g s lv l v p u q :=
  h.on (hb.mono hn)
theorem OwnS.flip {W : World} {base g : Nat} {lv : Value} {l : List S28} {v : Value} {p : List Int} {u : Value} {q : List Int} (h : OwnS W base g 0 lv l v p u q) (hne : v.ownBlock = none ∨ v.ownBlock ≠ u.ownBlock) : OwnS W base g 1 lv l u q v p :=
  ⟨h.rl, h.rq, h.rp, h.box, hne, h.le⟩
theorem OwnS.two {W : World} {base g : Nat} {lv : Value} {l : List S28} {v : Value} {p : List Int} {u : Value} {q : List Int} (h : OwnS W base g 1 lv l v p u q) : OwnS W base g 2 lv l v p u q :=
  ⟨h.rl, h.rp, h.rq, h.box, h.ne, h.le⟩
theorem ne_flip {v u : Value} (h : u.ownBlock = none ∨ u.ownBlock ≠ v.ownBlock) : v.ownBlock = none ∨ v.ownBlock ≠ u.ownBlock := by
  rcases h with h | h
  · rw [h]
    cases v.ownBlock with
    | none => exact .inl rfl
    | some k => exact .inr (by simp)
  · exact .inr (fun e => h e.symm)
theorem OwnS.cell {W : World} {base g s : Nat} {lv : Value} {l : List S28} {v : Value} {p : List Int} {u : Value} {q : List Int} (h : OwnS W base g s lv l v p u q) (hs : s < 2) : W.cell? ⟨g, s, none⟩ = some v := by
  rw [blk_cell h.box]
  rcases (show s = 0 ∨ s = 1 by omega) with rfl | rfl <;> rfl
theorem OwnS.lapp {W W' : World} {base g s : Nat} {lv lv' : Value} {l l' : List S28} {v : Value} {p : List Int} {u : Value} {q : List Int} (h : OwnS W base g s lv l v p u q) (hg : W.grownBy W' lv.ownBlock) (hr : W'.ownsRow base 28 4 lv' l'.length (l'.flatMap cellsT)) : OwnS W' base g s lv' l' v p u q :=
  ⟨hr, h.rp.kept hg (own_two h.rp h.rl (by decide)), h.rq.kept hg (own_two h.rq h.rl (by decide)), (hg.block _ (blk_lt h.box) (own_ne h.rl h.box (by decide))).trans h.box, h.ne, h.le⟩
theorem OwnS.papp {W W' W2 : World} {base g s : Nat} {lv : Value} {l : List S28} {v v' : Value} {p p' : List Int} {u : Value} {q : List Int} (h : OwnS W base g s lv l v p u q) (hs : s < 2) (hg : W.grownBy W' v.ownBlock) (hr : W'.ownsRow base 3 1 v' p'.length (p'.map (Value.int .i64)))
    (hat : v'.ownBlock = v.ownBlock ∨ ∃ k, v'.ownBlock = some k ∧ W.heap.size ≤ k) (hK : W2.heap[g]? = some (.cells (((pairV s v u).toList.take s ++ [v'] ++ (pairV s v u).toList.drop (s + 1)).toArray) 65 (0, 0))) (hg2 : W'.grownBy W2 (some g)) : OwnS W2 base g s lv l v' p' u q := by
  have hb' : W'.heap[g]? = some (.cells (pairV s v u) 65 (0, 0)) := (hg.block _ (blk_lt h.box) (own_ne h.rp h.box (by decide))).trans h.box
  have r1 := h.rl.kept hg (own_two h.rl h.rp (by decide))
  have r2 := h.rq.kept hg h.ne
  refine ⟨r1.kept hg2 (.inr (own_ne r1 hb' (by decide)).symm), hr.kept hg2 (.inr (own_ne hr hb' (by decide)).symm), r2.kept hg2 (.inr (own_ne r2 hb' (by decide)).symm), ?_, ?_, h.le⟩
  · rw [hK]
    rcases (show s = 0 ∨ s = 1 by omega) with rfl | rfl <;> rfl
  · rcases hat with e | ⟨k, e, hk⟩
    · rw [e]; exact h.ne
    · cases hu : u.ownBlock with
      | none => exact .inl rfl
      | some j =>
        right
        rw [e]
        intro e2
        injection e2 with e2
        have := own_lt h.rq hu
        omega
/-- What is to be known of the lists ahead of a side's turn. -/
def Sides (s : Nat) (l0 : List S28) (p0 q0 : List Int) (f : Int) (i0 i1 : Nat) (l : List S28) (p q : List Int) : Prop :=
  (s = 0 ∧ l = l0 ∧ p = p0 ∧ q = q0) ∨
  (s = 1 ∧ l = putL l0 (mkT f (rd p0 (i0 : Int)) (rd p0 (i1 : Int))) ∧ p = q0 ∧ q = p0 ++ [putI l0 (mkT f (rd p0 (i0 : Int)) (rd p0 (i1 : Int)))]) ∨
  (s = 2 ∧ ∃ l1, l1 = putL l0 (mkT f (rd p0 (i0 : Int)) (rd p0 (i1 : Int))) ∧ l = putL l1 (mkT f (rd q0 (i0 : Int)) (rd q0 (i1 : Int))) ∧ p = q0 ++ [putI l1 (mkT f (rd q0 (i0 : Int)) (rd q0 (i1 : Int)))] ∧ q = p0 ++ [putI l0 (mkT f (rd p0 (i0 : Int)) (rd p0 (i1 : Int)))])
theorem Sides.facts {n s : Nat} {l0 : List S28} {p0 q0 : List Int} (h : Two n l0 p0 q0) (hn : n ≤ 100) {f : Int} (hf0 : 1 ≤ f) (hf1 : f ≤ 6) {i0 i1 : Nat} (h0 : i0 < 3 + n) (h1 : i1 < 3 + n) {l : List S28} {p q : List Int} (hs : Sides s l0 p0 q0 f i0 i1 l p q) (hlt : s < 2) :
    p.length = 3 + n ∧ l.length ≤ 7 + 2 * n ∧ (0 ≤ rd p (i0 : Int) ∧ rd p (i0 : Int) < 400) ∧ 0 ≤ rd p (i1 : Int) ∧ rd p (i1 : Int) < 400 := by
  have a0 := h.prng i0 h0
  have a1 := h.prng i1 h1
  have hl := h.len
  have hp := h.plen
  have hq := h.qlen
  obtain ⟨o1, o2, o3, o4⟩ := h.half hn hf0 hf1 h0 h1
  rcases hs with ⟨rfl, rfl, rfl, rfl⟩ | ⟨rfl, rfl, rfl, rfl⟩ | ⟨rfl, _⟩ <;> omega
theorem Sides.next {s : Nat} {l0 : List S28} {p0 q0 : List Int} {f : Int} {i0 i1 : Nat} {l : List S28} {p q : List Int} (hs : Sides s l0 p0 q0 f i0 i1 l p q) (hlt : s < 2) {W : World} {base g : Nat} {lv v u : Value}
    (h : OwnS W base g s lv (putL l (mkT f (rd p (i0 : Int)) (rd p (i1 : Int)))) v (p ++ [putI l (mkT f (rd p (i0 : Int)) (rd p (i1 : Int)))]) u q) :
    ∃ l' v' p' u' q', OwnS W base g (s + 1) lv l' v' p' u' q' ∧ Sides (s + 1) l0 p0 q0 f i0 i1 l' p' q' ∧ l' = putL l (mkT f (rd p (i0 : Int)) (rd p (i1 : Int))) := by
  rcases hs with ⟨rfl, rfl, rfl, rfl⟩ | ⟨rfl, rfl, rfl, rfl⟩ | ⟨rfl, _⟩
  · exact ⟨_, _, _, _, _, h.flip (ne_flip h.ne), .inr (.inl ⟨rfl, rfl, rfl, rfl⟩), rfl⟩
  · exact ⟨_, _, _, _, _, h.two, .inr (.inr ⟨rfl, _, rfl, rfl, rfl, rfl⟩), rfl⟩
  · omega
theorem Sides.ends {n : Nat} {l0 : List S28} {p0 q0 : List Int} (h : Two n l0 p0 q0) (hn : n ≤ 100) {f : Int} (hf0 : 1 ≤ f) (hf1 : f ≤ 6) {i0 i1 : Nat} (h0 : i0 < 3 + n) (h1 : i1 < 3 + n) {l : List S28} {p q : List Int} (hs : Sides 2 l0 p0 q0 f i0 i1 l p q) {W : World} {base g : Nat} {lv v u : Value} (hW : OwnS W base g 2 lv l v p u q) :
    Two (n + 1) l q p ∧ OwnS W base g 0 lv l u q v p := by
  rcases hs with ⟨h2, _⟩ | ⟨h2, _⟩ | ⟨-, l1, e1, e2, e3, e4⟩
  · omega
  · omega
  · subst e2 e3 e4
    exact ⟨h.step hn hf0 hf1 h0 h1 e1.symm rfl, hW.rl, hW.rq, hW.rp, hW.box, ne_flip hW.ne, hW.le⟩
theorem tdiv_range {x c : Int} (hc : 0 < c) (h0 : -9223372036854775808 ≤ x) (h1 : x < 9223372036854775808) : -(9223372036854775808 / c) ≤ Int.tdiv x c ∧ Int.tdiv x c ≤ 9223372036854775808 / c := by
  rcases Int.le_total 0 x with h | h
  · rw [Int.tdiv_eq_ediv_of_nonneg h]
    have := Int.ediv_le_ediv hc (show x ≤ 9223372036854775808 by omega)
    have := Int.ediv_nonneg h (Int.le_of_lt hc)
    omega
  · obtain ⟨y, rfl⟩ : ∃ y, x = -y := ⟨-x, by omega⟩
    rw [Int.neg_tdiv, Int.tdiv_eq_ediv_of_nonneg (by omega)]
    have := Int.ediv_le_ediv hc (show y ≤ 9223372036854775808 by omega)
    have := Int.ediv_nonneg (show 0 ≤ y by omega) (Int.le_of_lt hc)
    omega
theorem tmod_nat {x : Int} {m : Nat} (h : 0 ≤ x) (hm : 0 < m) : ∃ i : Nat, Int.tmod x (m : Int) = (i : Int) ∧ i < m := by
  have h1 := Int.tmod_nonneg (m : Int) h
  have h2 := Int.tmod_lt_of_pos x (show (0 : Int) < (m : Int) by omega)
  exact ⟨(Int.tmod x (m : Int)).toNat, by omega, by omega⟩
theorem wrap_id (x : Int) (h0 : -9223372036854775808 ≤ x) (h1 : x < 9223372036854775808) : wrap64 x = x := by unfold wrap64; omega
theorem kind_facts (kd : Int) (h0 : -9223372036854775808 ≤ kd) (h1 : kd < 9223372036854775808) (n : Nat) (hn : n ≤ 100) :
    ∃ (q7 q70 a7 a70 z ak : Int) (i0 i1 fk : Nat) (f : Int), wrap64 (Int.tdiv kd 7) = q7 ∧ wrap64 (Int.tdiv kd 70) = q70 ∧
      Hid (∀ W, Calls Try.prog 40 #[.int .i64 q7] W fun e w' => e = .returned (.int .i64 a7) ∧ Below W.heap.size W w') ∧
      Hid (∀ W, Calls Try.prog 40 #[.int .i64 q70] W fun e w' => e = .returned (.int .i64 a70) ∧ Below W.heap.size W w') ∧
      Hid (∀ W, Calls Try.prog 40 #[.int .i64 kd] W fun e w' => e = .returned (.int .i64 ak) ∧ Below W.heap.size W w') ∧
      wrap64 (a70 + (n : Int)) = z ∧ Int.tmod a7 ((3 + n : Nat) : Int) = (i0 : Int) ∧ Int.tmod z ((3 + n : Nat) : Int) = (i1 : Int) ∧ Int.tmod ak 6 = (fk : Int) ∧ wrap64 (1 + (fk : Int)) = f ∧ i0 < 3 + n ∧ i1 < 3 + n ∧ 1 ≤ f ∧ f ≤ 6 := by
  have t7 := tdiv_range (c := 7) (by decide) h0 h1
  have t70 := tdiv_range (c := 70) (by decide) h0 h1
  have e7 := wrap_id (Int.tdiv kd 7) (by omega) (by omega)
  have e70 := wrap_id (Int.tdiv kd 70) (by omega) (by omega)
  have r7 := (absZ_range (x := Int.tdiv kd 7) (by omega) (by omega)).1
  have r70 := (absZ_range (x := Int.tdiv kd 70) (by omega) (by omega)).1
  have s70 := absZ_le (x := Int.tdiv kd 70) (b := 131762481955781911) (by omega) (by omega) (by omega) (by omega)
  have rk := (absZ_range h0 h1).1
  obtain ⟨i0, g0, g0n⟩ := tmod_nat (m := 3 + n) r7 (by omega)
  obtain ⟨i1, g1, g1n⟩ := tmod_nat (x := absZ (Int.tdiv kd 70) + (n : Int)) (m := 3 + n) (by omega) (by omega)
  obtain ⟨fk, gk, gk6⟩ := tmod_nat (x := absZ kd) (m := 6) rk (by decide)
  exact ⟨Int.tdiv kd 7, Int.tdiv kd 70, _, _, absZ (Int.tdiv kd 70) + (n : Int), _, i0, i1, fk, 1 + (fk : Int), e7, e70, Lib.hid (abs_calls _), Lib.hid (abs_calls _), Lib.hid (abs_calls _), wrap_id _ (by omega) (by omega), g0, g1, gk, wrap_id _ (by omega) (by omega), g0n, g1n, by omega, by omega⟩
theorem frame_facts (fv : Int) (h0 : -9223372036854775808 ≤ fv) (h1 : fv < 9223372036854775808) (m : Nat) (hm : 0 < m) :
    ∃ (a : Int) (j : Nat), Hid (∀ W, Calls Try.prog 40 #[.int .i64 fv] W fun e w' => e = .returned (.int .i64 a) ∧ Below W.heap.size W w') ∧ Int.tmod a (m : Int) = (j : Int) ∧ j < m := by
  obtain ⟨j, g, gm⟩ := tmod_nat (m := m) (absZ_range h0 h1).1 hm
  exact ⟨_, j, Lib.hid (abs_calls _), g, gm⟩
/-- Two rows of the call's own, side by side. -/
structure AB (wb W : World) (ka : Value) (xs : List Int) (kb : Value) (ys : List Int) : Prop where
  ra : W.ownsRow wb.heap.size 3 1 ka xs.length (xs.map (Value.int .i64))
  rb : W.ownsRow wb.heap.size 3 1 kb ys.length (ys.map (Value.int .i64))
  ne : kb.ownBlock = none ∨ kb.ownBlock ≠ ka.ownBlock
  be : Below wb.heap.size wb W
theorem AB.base {wb W : World} {ka kb : Value} {xs ys : List Int} (h : AB wb W ka xs kb ys) : wb.heap.size ≤ W.heap.size := h.be.size
theorem AB.on {wb W W' : World} {ka kb : Value} {xs ys : List Int} (h : AB wb W ka xs kb ys) (hb : Below W.heap.size W W') : AB wb W' ka xs kb ys :=
  ⟨own_on h.ra hb, own_on h.rb hb, h.ne, below_step h.be hb⟩
theorem AB.alloc {wb W : World} {ka kb : Value} {xs ys : List Int} (h : AB wb W ka xs kb ys) (o : Obj) : AB wb (W.alloc o) ka xs kb ys := h.on (below_alloc (Below.refl _ _) _)
theorem AB.drew {wb W : World} {ka kb : Value} {xs ys : List Int} (h : AB wb W ka xs kb ys) : AB wb W.drew ka xs kb ys := h.on (below_drew (Below.refl _ _))
theorem own_new {W : World} {base e size n k j : Nat} {v v' : Value} {xs : List Value} (h : W.ownsRow base e size v n xs) (e' : v'.ownBlock = some k) (hk : W.heap.size ≤ k) : v.ownBlock = none ∨ v.ownBlock ≠ v'.ownBlock := by
  cases hv : v.ownBlock with
  | none => exact .inl rfl
  | some i =>
    right
    rw [e']
    intro h2
    injection h2 with h2
    have := own_lt h hv
    omega
theorem AB.appA {wb W W' : World} {ka ka' kb : Value} {xs xs' ys : List Int} (h : AB wb W ka xs kb ys) (hg : W.grownBy W' ka.ownBlock) (hr : W'.ownsRow wb.heap.size 3 1 ka' xs'.length (xs'.map (Value.int .i64))) (hat : ka'.ownBlock = ka.ownBlock ∨ ka'.ownBlock = some W.heap.size) : AB wb W' ka' xs' kb ys :=
  ⟨hr, h.rb.kept hg h.ne, by
    rcases hat with e | e
    · rw [e]; exact h.ne
    · exact own_new (j := 0) h.rb e (Nat.le_refl _), h.be.grown hg h.be.size (fun k hk => own_base h.ra k hk)⟩
theorem AB.appB {wb W W' : World} {ka kb kb' : Value} {xs ys ys' : List Int} (h : AB wb W ka xs kb ys) (hg : W.grownBy W' kb.ownBlock) (hr : W'.ownsRow wb.heap.size 3 1 kb' ys'.length (ys'.map (Value.int .i64))) (hat : kb'.ownBlock = kb.ownBlock ∨ kb'.ownBlock = some W.heap.size) : AB wb W' ka xs kb' ys' :=
  ⟨h.ra.kept hg (ne_flip h.ne), hr, by
    rcases hat with e | e
    · rw [e]; exact h.ne
    · exact ne_flip (own_new (j := 0) h.ra e (Nat.le_refl _)), h.be.grown hg h.be.size (fun k hk => own_base h.rb k hk)⟩
theorem AB.away {wb W : World} {ka kb : Value} {xs ys : List Int} (h : AB wb W ka xs kb ys) : ∀ j, W.heap.size ≤ j → some j ≠ ka.ownBlock := fun j hj e => by
  have := own_lt h.ra e.symm
  omega
end Go.Proofs.Ytenmmeehgnkcpaa.Q
