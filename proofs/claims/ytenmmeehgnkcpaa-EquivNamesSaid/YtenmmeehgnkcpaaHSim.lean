/- Recipes of two frames of which one is the other with other places: nothing tells them apart.
   Conditions: the list may be; there is room for all recipes. -/
import Derived.Test.YtenmmeehgnkcpaaHStat
namespace Go.Proofs.Ytenmmeehgnkcpaa.Q
open Go.RowKit Go.Proofs.YtenmmeehgnkcpaaW.PrintWords Go.Proofs.YtenmmeehgnkcpaaW.PrintLast Go.Proofs.YtenmmeehgnkcpaaW.PrintMore
set_option linter.unusedVariables false
set_option linter.unusedSimpArgs false

theorem madeB_iff {n : Int} {t : S28} : madeB n t = true ↔ (t.f1 = 0 ∨ t.f0 = 0 ∨ t.f0 = 3) ∧
    ((t.f0 = 0 ∧ t.f2 = 0 ∧ t.f3 = 0) ∨ ((t.f0 = 1 ∨ t.f0 = 3) ∧ 0 ≤ t.f2 ∧ t.f2 < n ∧ t.f3 = 0) ∨ ((t.f0 = 2 ∨ (4 ≤ t.f0 ∧ t.f0 ≤ 6)) ∧ 0 ≤ t.f2 ∧ t.f2 < n ∧ 0 ≤ t.f3 ∧ t.f3 < n ∧ (t.f0 = 2 → t.f2 ≤ t.f3))) := by
  unfold madeB
  by_cases h1 : ((t.f1 != 0) && ((t.f0 != 0) && (t.f0 != 3))) = true
  · rw [if_pos h1]
    simp at h1
    constructor
    · intro h; cases h
    · rintro ⟨h, _⟩; omega
  · rw [if_neg h1]
    simp at h1
    have h1' : t.f1 = 0 ∨ t.f0 = 0 ∨ t.f0 = 3 := by
      by_cases a : t.f1 = 0
      · exact .inl a
      · by_cases b : t.f0 = 0
        · exact .inr (.inl b)
        · exact .inr (.inr (h1 a b))
    by_cases h0 : t.f0 = 0
    · simp [h0]
    · by_cases hu : t.f0 = 1 ∨ t.f0 = 3
      · rcases hu with hu | hu <;> simp [hu, unaryB, inB] at h1' ⊢ <;> omega
      · have hub : unaryB t.f0 = false := by
          unfold unaryB
          rw [beq_eq_false_iff_ne.2 (fun h => hu (.inl h)), beq_eq_false_iff_ne.2 (fun h => hu (.inr h))]
          rfl
        rw [beq_eq_false_iff_ne.2 h0, hub]
        simp [binaryB, inB]
        omega
theorem idx_hit {l : List S28} {t : S28} (h : 0 ≤ idxT l t) : ∃ j : Nat, idxT l t = (j : Int) ∧ j < l.length ∧ rd_T28 l (j : Int) = t := by
  unfold idxT idxN at h ⊢
  split at h
  · rename_i hlt
    rw [if_pos hlt]
    refine ⟨_, rfl, hlt, ?_⟩
    have h1 := List.findIdx_getElem (p := fun x => eqT t x) (w := hlt)
    rw [rd28_nat l _ hlt]
    exact (eqT_iff.1 h1).symm
  · omega
theorem idx_miss {l : List S28} {t : S28} (h : ¬ 0 ≤ idxT l t) : hasT l t = false := by
  rw [Bool.eq_false_iff]
  intro hm
  apply h
  rw [hasT_iff] at hm
  unfold idxT idxN
  rw [if_pos (List.findIdx_lt_length_of_exists ⟨t, hm, eqT_iff.2 rfl⟩)]
  omega
theorem okT_pre (l : List S28) (k j : Nat) (hj : j < k) (hk : k ≤ l.length) : okT (l.take k) j = okT l j := by
  unfold okT
  rw [List.take_take, Nat.min_eq_left (by omega), rd28_nat l j (by omega), rd28_nat (l.take k) j (by rw [List.length_take]; omega), List.getElem_take]
theorem right_snoc {l : List S28} {t : S28} (hr : rightB l = true) (hm : madeB (l.length : Int) t = true) (hn : hasT l t = false) (hlt : l.length < 400) : rightB (l ++ [t]) = true := by
  rw [rowT_yes fun i hi => ?_]
  · rw [List.length_append, List.length_singleton]; exact decide_eq_true (by omega)
  · rw [List.length_append, List.length_singleton] at hi
    by_cases h : i < l.length
    · have h1 := okT_pre (l ++ [t]) l.length i h (by simp)
      rw [List.take_left] at h1
      rw [← h1]
      unfold rightB rowT at hr
      exact List.all_eq_true.1 (Bool.and_eq_true_iff.1 hr).1 i (List.mem_range.2 h)
    · obtain rfl : i = l.length := by omega
      unfold okT
      rw [List.take_left, rd28_nat _ _ (by simp), List.getElem_append_right (Nat.le_refl _)]
      simp [hm, hn]
/-- What term.Add does with a term that may be, where there is room. -/
theorem addR_made {l : List S28} {t : S28} (hr : rightB l = true) (hm : madeB (l.length : Int) (turnT t) = true) (hlt : l.length < 400) :
    (addR l t).2.2 = 0 ∧ rightB (addR l t).1 = true ∧ l <+: (addR l t).1 ∧ (addR l t).1.length ≤ l.length + 1 ∧ ∃ j : Nat, (addR l t).2.1 = (j : Int) ∧ j < (addR l t).1.length ∧ rd_T28 (addR l t).1 (j : Int) = turnT t ∧ ((addR l t).1 = l ∨ (addR l t).1 = l ++ [turnT t] ∧ j = l.length) := by
  unfold addR
  rw [if_pos hr, if_pos hm]
  by_cases hi : 0 ≤ idxT l (turnT t)
  · rw [if_pos hi]
    obtain ⟨j, h1, h2, h3⟩ := idx_hit hi
    exact ⟨rfl, hr, List.prefix_refl _, Nat.le_succ _, j, h1, h2, h3, .inl rfl⟩
  · rw [if_neg hi, if_neg (by omega)]
    refine ⟨rfl, right_snoc hr hm (idx_miss hi) hlt, List.prefix_append _ _, by simp, l.length, rfl, by simp, ?_, .inr ⟨rfl, rfl⟩⟩
    rw [rd28_nat _ _ (by simp), List.getElem_append_right (Nat.le_refl _)]
    simp
def madeIt (n : Nat) : It → Prop
  | .put _ => True
  | .add t => madeB (n : Int) (turnT t) = true
theorem made_later {n m : Nat} {t : S28} (h : madeB (n : Int) t = true) (hnm : n ≤ m) : madeB (m : Int) t = true := by
  rw [madeB_iff] at h ⊢
  omega
theorem items_made {l : List S28} {fr : List Int} (hr : rightB l = true) (hfr : ∀ x ∈ fr, 0 ≤ x ∧ x < l.length) : ∀ x ∈ items l fr, ∀ n, l.length ≤ n → madeIt n x := by
  have hm : ∀ x ∈ fr, madeB (l.length : Int) (rd_T28 l x) = true := fun x hx => by
    obtain ⟨h0, h1⟩ := hfr x hx
    obtain ⟨j, rfl⟩ : ∃ j : Nat, x = (j : Int) := ⟨x.toNat, by omega⟩
    exact made_later (right_at hr j (by omega)).1 (by omega)
  intro x hx n hn
  unfold items at hx
  rcases List.mem_append.1 hx with hx | hx
  · obtain ⟨i, _, rfl⟩ := List.mem_map.1 hx
    trivial
  · rcases List.mem_append.1 hx with hx | hx
    · obtain ⟨i, hi, hx⟩ := List.mem_flatMap.1 hx
      obtain ⟨h0, h1⟩ := hfr i hi
      simp only [it2, List.mem_cons, List.not_mem_nil, or_false] at hx
      rcases hx with rfl | rfl | rfl | rfl
      · show madeB _ (turnT _) = true
        rw [show turnT ⟨1, 0, i, 0⟩ = ⟨1, 0, i, 0⟩ from if_neg (by simp), madeB_iff]
        simp; omega
      · show madeB _ (turnT _) = true
        rw [show turnT ⟨3, 0, i, 0⟩ = ⟨3, 0, i, 0⟩ from if_neg (by simp), madeB_iff]
        simp; omega
      · trivial
      · trivial
    · obtain ⟨i, hi, hx⟩ := List.mem_flatMap.1 hx
      obtain ⟨j, hj, hx⟩ := List.mem_flatMap.1 hx
      obtain ⟨h0, h1⟩ := hfr i hi
      obtain ⟨k0, k1⟩ := hfr j hj
      have hmj := madeB_iff.1 (hm j hj)
      simp only [it3, List.mem_cons, List.not_mem_nil, or_false] at hx
      rcases hx with rfl | rfl | rfl | rfl
      · split
        · rename_i hk
          show madeB _ (turnT _) = true
          rw [madeB_iff]
          unfold turnT
          split
          · rename_i h2
            simp at h2 ⊢
            omega
          · rename_i h2
            simp at h2 ⊢
            omega
        · trivial
      · show madeB _ (turnT _) = true
        rw [show turnT ⟨4, 0, i, j⟩ = ⟨4, 0, i, j⟩ from if_neg (by simp), madeB_iff]
        simp; omega
      · trivial
      · show madeB _ (turnT _) = true
        rw [show turnT ⟨6, 0, i, j⟩ = ⟨6, 0, i, j⟩ from if_neg (by simp), madeB_iff]
        simp; omega
theorem cookA_made {l : List S28} {t : S28} (hr : rightB l = true) (hm : madeB (l.length : Int) (turnT t) = true) (hlt : l.length < 400) : cookA (l, false) t = (((addR l t).1, false), (addR l t).2.1) := by
  unfold cookA
  exact if_pos (addR_made hr hm hlt).1
theorem run_ok : ∀ (D : List It) (l : List S28), rightB l = true → (∀ x ∈ D, ∀ n, l.length ≤ n → madeIt n x) → l.length + D.length ≤ 400 →
    (stL (l, false) D).2 = false ∧ rightB (stL (l, false) D).1 = true ∧ (stL (l, false) D).1.length ≤ l.length + D.length ∧ l <+: (stL (l, false) D).1
  | [], l, hr, _, _ => ⟨rfl, hr, Nat.le_refl _, List.prefix_refl _⟩
  | .put i :: D, l, hr, hm, hl => by
    have := run_ok D l hr (fun x hx => hm x (List.mem_cons_of_mem _ hx)) (by rw [List.length_cons] at hl; omega)
    exact ⟨this.1, this.2.1, by rw [List.length_cons]; exact Nat.le_trans this.2.2.1 (by omega), this.2.2.2⟩
  | .add t :: D, l, hr, hm, hl => by
    rw [List.length_cons] at hl ⊢
    have h1 := hm (.add t) (List.mem_cons_self ..) l.length (Nat.le_refl _)
    obtain ⟨a1, a2, a3, a4, _⟩ := addR_made hr h1 (by omega)
    have hs : stL (l, false) (.add t :: D) = stL ((addR l t).1, false) D := by
      show stL (cookA (l, false) t).1 D = _
      rw [cookA_made hr h1 (by omega)]
    have := run_ok D (addR l t).1 a2 (fun x hx n hn => hm x (List.mem_cons_of_mem _ hx) n (Nat.le_trans a3.length_le hn)) (by omega)
    rw [hs]
    exact ⟨this.1, this.2.1, by omega, a3.trans this.2.2.2⟩
/-! ### One list's places and another one's -/
inductive All2 {α β : Type} (R : α → β → Prop) : List α → List β → Prop where
  | nil : All2 R [] []
  | cons {x : α} {y : β} {xs : List α} {ys : List β} (h : R x y) (t : All2 R xs ys) : All2 R (x :: xs) (y :: ys)
theorem All2.imp {α β : Type} {R S : α → β → Prop} {xs : List α} {ys : List β} (h : All2 R xs ys) (hi : ∀ x y, R x y → S x y) : All2 S xs ys := by
  induction h with
  | nil => exact .nil
  | cons h t ih => exact .cons (hi _ _ h) ih
theorem All2.append {α β : Type} {R : α → β → Prop} {xs xs' : List α} {ys ys' : List β} (h : All2 R xs ys) (k : All2 R xs' ys') : All2 R (xs ++ xs') (ys ++ ys') := by
  induction h with
  | nil => exact k
  | cons h t ih => exact .cons h ih
theorem All2.length {α β : Type} {R : α → β → Prop} {xs : List α} {ys : List β} (h : All2 R xs ys) : xs.length = ys.length := by
  induction h with
  | nil => rfl
  | cons h t ih => rw [List.length_cons, List.length_cons, ih]
theorem All2.map {α β γ δ : Type} {R : α → β → Prop} {S : γ → δ → Prop} {f : α → γ} {g : β → δ} (hf : ∀ x y, R x y → S (f x) (g y)) {xs : List α} {ys : List β} (h : All2 R xs ys) : All2 S (xs.map f) (ys.map g) := by
  induction h with
  | nil => exact .nil
  | cons h t ih => exact .cons (hf _ _ h) ih
theorem All2.flatMap {α β γ δ : Type} {R : α → β → Prop} {S : γ → δ → Prop} {f : α → List γ} {g : β → List δ} (hf : ∀ x y, R x y → All2 S (f x) (g y)) {xs : List α} {ys : List β} (h : All2 R xs ys) : All2 S (xs.flatMap f) (ys.flatMap g) := by
  induction h with
  | nil => exact .nil
  | cons h t ih => rw [List.flatMap_cons, List.flatMap_cons]; exact (hf _ _ h).append ih
theorem All2.get {α β : Type} {R : α → β → Prop} {xs : List α} {ys : List β} (h : All2 R xs ys) : ∀ (i : Nat) (h1 : i < xs.length) (h2 : i < ys.length), R xs[i] ys[i] := by
  induction h with
  | nil => intro i h1; exact absurd h1 (Nat.not_lt_zero _)
  | cons h t ih =>
    intro i h1 h2
    cases i with
    | zero => exact h
    | succ i => exact ih i (by simpa using h1) (by simpa using h2)
/-- Two terms, with other places in the second one. -/
def RelT (R : Int → Int → Prop) (s t : S28) : Prop :=
  s.f0 = t.f0 ∧ (s.f0 ≠ 0 → s.f1 = t.f1) ∧ (s.f0 = 1 ∨ s.f0 = 3 → R s.f2 t.f2) ∧ (s.f0 = 4 ∨ s.f0 = 5 ∨ s.f0 = 6 → R s.f2 t.f2 ∧ R s.f3 t.f3) ∧ (s.f0 = 2 → (R s.f2 t.f2 ∧ R s.f3 t.f3) ∨ (R s.f2 t.f3 ∧ R s.f3 t.f2))
theorem RelT.imp {R R' : Int → Int → Prop} (hi : ∀ i j, R i j → R' i j) {s t : S28} (h : RelT R s t) : RelT R' s t :=
  ⟨h.1, h.2.1, fun k => hi _ _ (h.2.2.1 k), fun k => ⟨hi _ _ (h.2.2.2.1 k).1, hi _ _ (h.2.2.2.1 k).2⟩, fun k => (h.2.2.2.2 k).imp (fun h => ⟨hi _ _ h.1, hi _ _ h.2⟩) (fun h => ⟨hi _ _ h.1, hi _ _ h.2⟩)⟩
structure Sim (R : Int → Int → Prop) (la lb : List S28) : Prop where
  fn : ∀ i j j', R i j → R i j' → j = j'
  inj : ∀ i i' j, R i j → R i' j → i = i'
  rng : ∀ i j, R i j → 0 ≤ i ∧ i < la.length ∧ 0 ≤ j ∧ j < lb.length
  rel : ∀ i j, R i j → RelT R (rd_T28 la i) (rd_T28 lb j)
theorem rd_pre {l m : List S28} (h : l <+: m) (i : Int) (h0 : 0 ≤ i) (h1 : i < l.length) : rd_T28 m i = rd_T28 l i ∧ i < m.length := by
  obtain ⟨j, rfl⟩ : ∃ j : Nat, i = (j : Int) := ⟨i.toNat, by omega⟩
  obtain ⟨a, b⟩ := rd_prefix h j (by omega)
  exact ⟨a, by omega⟩
theorem Sim.later {R : Int → Int → Prop} {la lb lb' : List S28} (h : Sim R la lb) (hp : lb <+: lb') : Sim R la lb' :=
  ⟨h.fn, h.inj, fun i j r => by obtain ⟨a, b, c, d⟩ := h.rng i j r; exact ⟨a, b, c, (rd_pre hp j c d).2⟩, fun i j r => by obtain ⟨a, b, c, d⟩ := h.rng i j r; rw [(rd_pre hp j c d).1]; exact h.rel i j r⟩
theorem relT_turn {R : Int → Int → Prop} {u v : S28} (h : RelT R u v) : RelT R (turnT u) (turnT v) := by
  obtain ⟨h1, h2, h3, h4, h5⟩ := h
  unfold turnT
  by_cases hu : u.f0 = 2 ∧ u.f3 < u.f2
  · by_cases hv : v.f0 = 2 ∧ v.f3 < v.f2
    · rw [if_pos hu, if_pos hv]
      exact ⟨h1, h2, fun k => by simp only at k; omega, fun k => by simp only at k; omega, fun k => (h5 k).imp (fun h => ⟨h.2, h.1⟩) (fun h => ⟨h.2, h.1⟩)⟩
    · rw [if_pos hu, if_neg hv]
      exact ⟨h1, h2, fun k => by simp only at k; omega, fun k => by simp only at k; omega, fun k => (h5 k).symm.imp (fun h => ⟨h.2, h.1⟩) (fun h => ⟨h.2, h.1⟩)⟩
  · by_cases hv : v.f0 = 2 ∧ v.f3 < v.f2
    · rw [if_neg hu, if_pos hv]
      exact ⟨h1, h2, fun k => by omega, fun k => by omega, fun k => (h5 k).symm⟩
    · rw [if_neg hu, if_neg hv]
      exact ⟨h1, h2, h3, h4, h5⟩
theorem relT_fn {R : Int → Int → Prop} (hfn : ∀ i j j', R i j → R i j' → j = j') {u x y : S28} {n m : Int} (k0 : u.f0 ≠ 0) (hx : RelT R u x) (hy : RelT R u y) (mx : madeB n x = true) (my : madeB m y = true) : x = y := by
  obtain ⟨x0, x1, x2, x3⟩ := x
  obtain ⟨y0, y1, y2, y3⟩ := y
  obtain ⟨a1, a2, a3, a4, a5⟩ := hx
  obtain ⟨b1, b2, b3, b4, b5⟩ := hy
  have mx := (madeB_iff.1 mx).2
  have my := (madeB_iff.1 my).2
  simp only at *
  have e0 : x0 = y0 := a1.symm.trans b1
  have e1 : x1 = y1 := (a2 k0).symm.trans (b2 k0)
  subst e0 e1
  by_cases hu : u.f0 = 1 ∨ u.f0 = 3
  · have e2 := hfn _ _ _ (a3 hu) (b3 hu)
    have : x3 = y3 := by omega
    rw [e2, this]
  · by_cases hb : u.f0 = 4 ∨ u.f0 = 5 ∨ u.f0 = 6
    · rw [hfn _ _ _ (a4 hb).1 (b4 hb).1, hfn _ _ _ (a4 hb).2 (b4 hb).2]
    · have h2 : u.f0 = 2 := by omega
      have e : x2 = y2 ∧ x3 = y3 := by
        rcases a5 h2 with ⟨p, q⟩ | ⟨p, q⟩ <;> rcases b5 h2 with ⟨p', q'⟩ | ⟨p', q'⟩
        · exact ⟨hfn _ _ _ p p', hfn _ _ _ q q'⟩
        · have g1 := hfn _ _ _ p p'
          have g2 := hfn _ _ _ q q'
          omega
        · have g1 := hfn _ _ _ p p'
          have g2 := hfn _ _ _ q q'
          omega
        · exact ⟨hfn _ _ _ q q', hfn _ _ _ p p'⟩
      rw [e.1, e.2]
theorem relT_flip {R : Int → Int → Prop} {u v : S28} (h : RelT R u v) : RelT (fun i j => R j i) v u := by
  obtain ⟨h1, h2, h3, h4, h5⟩ := h
  exact ⟨h1.symm, fun k => (h2 (by omega)).symm, fun k => h3 (by omega), fun k => h4 (by omega), fun k => (h5 (by omega)).imp id (fun h => ⟨h.2, h.1⟩)⟩
theorem made_at {l : List S28} (hr : rightB l = true) (i : Int) (h0 : 0 ≤ i) (h1 : i < l.length) : madeB i (rd_T28 l i) = true := by
  obtain ⟨j, rfl⟩ : ∃ j : Nat, i = (j : Int) := ⟨i.toNat, by omega⟩
  exact (right_at hr j (by omega)).1
/-- A term more in both lists. -/
theorem sim_add {R : Int → Int → Prop} {la lb : List S28} {u v : S28} (S : Sim R la lb) (ra : rightB la = true) (rb : rightB lb = true) (h : RelT R u v) (k0 : u.f0 ≠ 0) (mu : madeB (la.length : Int) (turnT u) = true) (mv : madeB (lb.length : Int) (turnT v) = true) (hla : la.length < 400) (hlb : lb.length < 400) :
    ∃ R' : Int → Int → Prop, (∀ i j, R i j → R' i j) ∧ Sim R' (addR la u).1 (addR lb v).1 ∧ R' (addR la u).2.1 (addR lb v).2.1 := by
  obtain ⟨-, ra', pa, -, i, hi, hil, hiu, hia⟩ := addR_made ra mu hla
  obtain ⟨-, rb', pb, -, j, hj, hjl, hjv, hjb⟩ := addR_made rb mv hlb
  have hT := relT_turn h
  have ku : (turnT u).f0 ≠ 0 := by
    unfold turnT
    split
    · exact k0
    · exact k0
  have kv : (turnT v).f0 ≠ 0 := by rw [← hT.1]; exact ku
  rw [hi, hj]
  generalize (addR la u).1 = la' at *
  generalize (addR lb v).1 = lb' at *
  generalize turnT u = u' at *
  generalize turnT v = v' at *
  -- a pair of the old ones that has the one has the other
  have key1 : ∀ b, R (i : Int) b → b = (j : Int) := fun b hb => by
    obtain ⟨c1, c2, c3, c4⟩ := S.rng _ _ hb
    have hr := S.rel _ _ hb
    rw [← (rd_pre pa _ c1 c2).1, hiu] at hr
    have e := relT_fn S.fn ku hr hT (made_at rb b c3 c4) mv
    rw [← (rd_pre pb _ c3 c4).1] at e
    obtain ⟨k, rfl⟩ : ∃ k : Nat, b = (k : Int) := ⟨b.toNat, by omega⟩
    exact_mod_cast right_inj rb' k j (by have := pb.length_le; omega) hjl (e.trans hjv.symm)
  have key2 : ∀ a, R a (j : Int) → a = (i : Int) := fun a hb => by
    obtain ⟨c1, c2, c3, c4⟩ := S.rng _ _ hb
    have hr := S.rel _ _ hb
    rw [← (rd_pre pb _ c3 c4).1, hjv] at hr
    have e := relT_fn (R := fun i j => R j i) (fun x y z p q => S.inj _ _ _ p q) kv (relT_flip hr) (relT_flip hT) (made_at ra a c1 c2) mu
    rw [← (rd_pre pa _ c1 c2).1] at e
    obtain ⟨k, rfl⟩ : ∃ k : Nat, a = (k : Int) := ⟨a.toNat, by omega⟩
    exact_mod_cast right_inj ra' k i (by have := pa.length_le; omega) hil (e.trans hiu.symm)
  refine ⟨fun a b => R a b ∨ (a = i ∧ b = j), fun a b h => .inl h, ⟨?_, ?_, ?_, ?_⟩, .inr ⟨rfl, rfl⟩⟩
  · rintro a b b' (p | ⟨rfl, rfl⟩) (q | ⟨e, rfl⟩)
    · exact S.fn _ _ _ p q
    · subst e; exact key1 _ p
    · exact (key1 _ q).symm
    · rfl
  · rintro a a' b (p | ⟨rfl, rfl⟩) (q | ⟨rfl, e⟩)
    · exact S.inj _ _ _ p q
    · subst e; exact key2 _ p
    · exact (key2 _ q).symm
    · rfl
  · rintro a b (p | ⟨rfl, rfl⟩)
    · obtain ⟨c1, c2, c3, c4⟩ := S.rng _ _ p
      exact ⟨c1, (rd_pre pa _ c1 c2).2, c3, (rd_pre pb _ c3 c4).2⟩
    · omega
  · rintro a b (p | ⟨rfl, rfl⟩)
    · obtain ⟨c1, c2, c3, c4⟩ := S.rng _ _ p
      rw [(rd_pre pa _ c1 c2).1, (rd_pre pb _ c3 c4).1]
      exact (S.rel _ _ p).imp fun _ _ h => .inl h
    · rw [hiu, hjv]
      exact hT.imp fun _ _ h => .inl h
/-- Two recipes, by other places; both nothing, or neither. -/
def RV (R : Int → Int → Prop) (i j : Int) : Prop := R i j ∨ (i = -1 ∧ j = -1)
def RelI (R : Int → Int → Prop) : It → It → Prop
  | .put i, .put j => RV R i j
  | .add u, .add v => RelT R u v ∧ u.f0 ≠ 0
  | _, _ => False
theorem RelI.imp {R R' : Int → Int → Prop} (hi : ∀ i j, R i j → R' i j) : ∀ {x y : It}, RelI R x y → RelI R' x y
  | .put _, .put _, h => Or.imp (hi _ _) id h
  | .add _, .add _, h => ⟨h.1.imp hi, h.2⟩
  | .put _, .add _, h => h.elim
  | .add _, .put _, h => h.elim
theorem sim_run : ∀ (Da Db : List It) {R : Int → Int → Prop} {la lb : List S28}, Sim R la lb → rightB la = true → rightB lb = true → All2 (RelI R) Da Db →
    (∀ x ∈ Da, ∀ n, la.length ≤ n → madeIt n x) → (∀ x ∈ Db, ∀ n, lb.length ≤ n → madeIt n x) → la.length + Da.length ≤ 400 → lb.length + Db.length ≤ 400 →
    ∃ R' : Int → Int → Prop, (∀ i j, R i j → R' i j) ∧ Sim R' (stL (la, false) Da).1 (stL (lb, false) Db).1 ∧ All2 (RV R') (valsL (la, false) Da) (valsL (lb, false) Db) := by
  intro Da
  induction Da with
  | nil =>
    intro Db R la lb S _ _ h _ _ _ _
    cases h
    exact ⟨R, fun _ _ h => h, S, .nil⟩
  | cons x Da ih =>
    intro Db R la lb S ra rb h ma mb hla hlb
    cases h with
    | @cons _ y _ Db h t =>
    rw [List.length_cons] at hla hlb
    cases x with
    | put i =>
      cases y with
      | add v => exact h.elim
      | put j =>
        obtain ⟨R', h1, h2, h3⟩ := ih Db S ra rb t (fun x hx => ma x (List.mem_cons_of_mem _ hx)) (fun x hx => mb x (List.mem_cons_of_mem _ hx)) (by omega) (by omega)
        exact ⟨R', h1, h2, .cons (Or.imp (h1 _ _) id h) h3⟩
    | add u =>
      cases y with
      | put j => exact h.elim
      | add v =>
        have mu := ma (.add u) (List.mem_cons_self ..) la.length (Nat.le_refl _)
        have mv := mb (.add v) (List.mem_cons_self ..) lb.length (Nat.le_refl _)
        obtain ⟨R1, g1, g2, g3⟩ := sim_add S ra rb h.1 h.2 mu mv (by omega) (by omega)
        obtain ⟨-, ra', pa, la', -⟩ := addR_made ra mu (by omega)
        obtain ⟨-, rb', pb, lb', -⟩ := addR_made rb mv (by omega)
        obtain ⟨R', h1, h2, h3⟩ := ih Db g2 ra' rb' (t.imp fun _ _ h => RelI.imp g1 h) (fun x hx n hn => ma x (List.mem_cons_of_mem _ hx) n (Nat.le_trans pa.length_le hn)) (fun x hx n hn => mb x (List.mem_cons_of_mem _ hx) n (Nat.le_trans pb.length_le hn)) (by omega) (by omega)
        have ea : cookA (la, false) u = _ := cookA_made ra mu (by omega)
        have eb : cookA (lb, false) v = _ := cookA_made rb mv (by omega)
        refine ⟨R', fun i j h => h1 _ _ (g1 _ _ h), ?_, ?_⟩
        · show Sim R' (stL (cookA (la, false) u).1 Da).1 (stL (cookA (lb, false) v).1 Db).1
          rw [ea, eb]
          exact h2
        · show All2 (RV R') ((cookA (la, false) u).2 :: valsL (cookA (la, false) u).1 Da) ((cookA (lb, false) v).2 :: valsL (cookA (lb, false) v).1 Db)
          rw [ea, eb]
          exact .cons (.inl (h1 _ _ g3)) h3
theorem rel_items {R : Int → Int → Prop} {l l' : List S28} {a b : List Int} (S : Sim R l l') (h : All2 R a b) : All2 (RelI R) (items l a) (items l' b) := by
  have hp : ∀ x y, R x y → (rd_T28 l x).f0 = (rd_T28 l' y).f0 := fun x y r => (S.rel _ _ r).1
  have h2 : ∀ x y, R x y → All2 (RelI R) (it2 l x) (it2 l' y) := fun x y r => by
    have hr := S.rel _ _ r
    have e := hr.1
    refine .cons ⟨⟨rfl, fun _ => rfl, fun _ => r, fun k => by simp only at k; omega, fun k => by simp only at k; omega⟩, by simp⟩ (.cons ⟨⟨rfl, fun _ => rfl, fun _ => r, fun k => by simp only at k; omega, fun k => by simp only at k; omega⟩, by simp⟩ (.cons ?_ (.cons ?_ .nil)))
    · show RV R _ _
      by_cases k : (rd_T28 l x).f0 = 4
      · rw [if_pos k, if_pos (e ▸ k)]; exact .inl (hr.2.2.2.1 (.inl k)).1
      · rw [if_neg k, if_neg (e ▸ k)]; exact .inr ⟨rfl, rfl⟩
    · show RV R _ _
      by_cases k : (rd_T28 l x).f0 = 4
      · rw [if_pos k, if_pos (e ▸ k)]; exact .inl (hr.2.2.2.1 (.inl k)).2
      · rw [if_neg k, if_neg (e ▸ k)]; exact .inr ⟨rfl, rfl⟩
  have h3 : ∀ x x', R x x' → ∀ y y', R y y' → All2 (RelI R) (it3 l x y) (it3 l' x' y') := fun x x' r y y' r' => by
    have hr := S.rel _ _ r'
    have e := hr.1
    refine .cons ?_ (.cons ⟨⟨rfl, fun _ => rfl, fun k => by simp only at k; omega, fun _ => ⟨r, r'⟩, fun k => by simp only at k; omega⟩, by simp⟩ (.cons ?_ (.cons ⟨⟨rfl, fun _ => rfl, fun k => by simp only at k; omega, fun _ => ⟨r, r'⟩, fun k => by simp only at k; omega⟩, by simp⟩ .nil)))
    · by_cases k : (rd_T28 l y).f0 = 1
      · rw [if_pos k, if_pos (e ▸ k)]
        exact ⟨⟨rfl, fun _ => rfl, fun k => by simp only at k; omega, fun k => by simp only at k; omega, fun _ => .inl ⟨r, hr.2.2.1 (.inl k)⟩⟩, by simp⟩
      · rw [if_neg k, if_neg (e ▸ k)]
        exact .inr ⟨rfl, rfl⟩
    · show RV R _ _
      by_cases k : (rd_T28 l y).f0 = 5
      · have hk := hr.2.2.2.1 (.inr (.inl k))
        by_cases k2 : (rd_T28 l y).f2 = x
        · have k2' : (rd_T28 l' y').f2 = x' := S.fn _ _ _ (k2 ▸ hk.1) r
          rw [if_pos ⟨k, k2⟩, if_pos ⟨e ▸ k, k2'⟩]
          exact .inl hk.2
        · have k2' : ¬ (rd_T28 l' y').f2 = x' := fun h => k2 (S.inj _ _ _ (h ▸ hk.1) r)
          rw [if_neg (fun h => k2 h.2), if_neg (fun h => k2' h.2)]
          exact .inr ⟨rfl, rfl⟩
      · rw [if_neg (fun h => k h.1), if_neg (fun h => k (e ▸ h.1))]
        exact .inr ⟨rfl, rfl⟩
  unfold items
  refine (h.map (S := RelI R) (f := It.put) (g := It.put) fun x y r => .inl r).append ((h.flatMap h2).append (h.flatMap fun x x' r => h.flatMap (h3 x x' r)))
theorem apFind_none {x y : List Int} (h : ∀ m n : Nat, m ≤ n → n < x.length → apB x y m n = false) : apFind x y = none := by
  have hrow : ∀ n, n < x.length → ∀ k i, k + i = n + 1 → firstN (apCell x y n) k i = none := fun n hn k => by
    induction k with
    | zero => intro i _; rfl
    | succ k ih =>
      intro i hi
      rw [firstN_none (by unfold apCell; rw [h i n (by omega) hn]; rfl)]
      exact ih (i + 1) (by omega)
  have hall : ∀ k i, k + i = x.length → firstN (apRow x y) k i = none := fun k => by
    induction k with
    | zero => intro i _; rfl
    | succ k ih =>
      intro i hi
      rw [firstN_none (show apRow x y i = none from hrow i (by omega) (i + 1) 0 rfl)]
      exact ih (i + 1) (by omega)
  exact hall x.length 0 rfl
theorem apFind_sim {R : Int → Int → Prop} {la lb : List S28} (S : Sim R la lb) {x y : List Int} (h : All2 (RV R) x y) : apFind x y = none := by
  have hl := h.length
  have hg : ∀ n : Nat, n < x.length → RV R (rd x (n : Int)) (rd y (n : Int)) := fun n hn => by
    rw [rdI_nat x n hn, rdI_nat y n (by omega)]
    exact h.get n hn (by omega)
  have hm : ∀ i j, RV R i j → (i = -1 ↔ j = -1) := fun i j r => by
    rcases r with r | r
    · have := S.rng _ _ r; omega
    · omega
  have he : ∀ i j i' j', RV R i j → RV R i' j' → (i = i' ↔ j = j') := fun i j i' j' r r' => by
    rcases r with r | r <;> rcases r' with r' | r'
    · exact ⟨fun e => S.fn _ _ _ (e ▸ r) r', fun e => S.inj _ _ _ (e ▸ r) r'⟩
    · have := S.rng _ _ r; omega
    · have := S.rng _ _ r'; omega
    · omega
  refine apFind_none fun m n hmn hn => ?_
  have hb : ∀ p q : Bool, (p = true ↔ q = true) → (p != q) = false := fun p q h => by cases p <;> cases q <;> simp_all
  unfold apB
  split
  · exact hb _ _ (by rw [beq_iff_eq, beq_iff_eq]; exact hm _ _ (hg n hn))
  · exact hb _ _ (by rw [beq_iff_eq, beq_iff_eq]; exact he _ _ _ _ (hg m (by omega)) (hg n hn))
theorem recR_fine {l : List S28} {fr : List Int} (hr : rightB l = true) (h5 : ¬ (fr.length < 1 ∨ 5 < fr.length)) (hfr : ∀ x ∈ fr, 0 ≤ x ∧ x < l.length) (hl : l.length + (items l fr).length ≤ 400) :
    recR l fr = ((stL (l, false) (items l fr)).1, valsL (l, false) (items l fr), 0) ∧ rightB (stL (l, false) (items l fr)).1 = true ∧ (stL (l, false) (items l fr)).1.length ≤ l.length + (items l fr).length ∧ l <+: (stL (l, false) (items l fr)).1 := by
  obtain ⟨h1, h2, h3, h4⟩ := run_ok (items l fr) l hr (items_made hr hfr) hl
  refine ⟨?_, h2, h3, h4⟩
  unfold recR
  rw [if_pos hr, if_neg h5, if_pos, if_neg (by rw [h1]; decide)]
  rw [List.all_eq_true]
  intro x hx
  obtain ⟨h1, h2⟩ := hfr x hx
  unfold inL
  rw [decide_eq_true h1, decide_eq_true h2]
  rfl
theorem items_short (l : List S28) (fr : List Int) (h : ¬ (fr.length < 1 ∨ 5 < fr.length)) : (items l fr).length ≤ 125 := by
  rw [items_len]
  have : fr.length * (fr.length * 4) ≤ 5 * (5 * 4) := Nat.mul_le_mul (by omega) (Nat.mul_le_mul (by omega) (Nat.le_refl _))
  omega
/-- **Frames of which one is the other with other places can't be told apart.** -/
theorem static_sim {R : Int → Int → Prop} {l : List S28} {a b : List Int} (S : Sim R l l) (h : All2 R a b) (hr : rightB l = true) (h5 : ¬ (a.length < 1 ∨ 5 < a.length)) (hl : l.length ≤ 150) : staticR l a b = (true, 0) := by
  have hab := h.length
  have hra : ∀ x ∈ a, 0 ≤ x ∧ x < l.length := by
    have : ∀ {xs ys : List Int}, All2 R xs ys → ∀ x ∈ xs, 0 ≤ x ∧ x < l.length := fun h => by
      induction h with
      | nil => intro x hx; cases hx
      | cons h t ih =>
        intro x hx
        rcases List.mem_cons.1 hx with rfl | hx
        · have := S.rng _ _ h; omega
        · exact ih x hx
    exact this h
  have hrb : ∀ x ∈ b, 0 ≤ x ∧ x < l.length := by
    have : ∀ {xs ys : List Int}, All2 R xs ys → ∀ y ∈ ys, 0 ≤ y ∧ y < l.length := fun h => by
      induction h with
      | nil => intro x hx; cases hx
      | cons h t ih =>
        intro x hx
        rcases List.mem_cons.1 hx with rfl | hx
        · have := S.rng _ _ h; omega
        · exact ih x hx
    exact this h
  have i1 := items_short l a h5
  obtain ⟨e1, r1, n1, p1⟩ := recR_fine hr h5 hra (by omega)
  have hlen := p1.length_le
  generalize hm : (stL (l, false) (items l a)).1 = m at *
  have h5b : ¬ (b.length < 1 ∨ 5 < b.length) := by omega
  have i2 := items_short m b h5b
  have hrb' : ∀ x ∈ b, 0 ≤ x ∧ x < m.length := fun x hx => by have := hrb x hx; omega
  obtain ⟨e2, r2, n2, p2⟩ := recR_fine r1 h5b hrb' (by omega)
  have S' := S.later p1
  obtain ⟨R', g1, g2, g3⟩ := sim_run (items l a) (items m b) S' hr r1 (rel_items S' h) (items_made hr hra) (items_made r1 hrb') (by omega) (by omega)
  have hap := apFind_sim g2 g3
  have hbo : bothR l a b = (valsL (l, false) (items l a), valsL (m, false) (items m b), 0) := by
    rw [both_eq l a b _ e1, if_pos rfl]
    simp only [e2]
    rw [if_neg (fun h => h.2 g3.length)]
  unfold staticR apartR apartV
  rw [hbo]
  simp only [hap]
  rfl
end Go.Proofs.Ytenmmeehgnkcpaa.Q
