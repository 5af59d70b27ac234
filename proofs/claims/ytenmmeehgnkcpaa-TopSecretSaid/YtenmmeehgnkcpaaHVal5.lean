/- What can be told is closed, and grows with what is known; layer 21's few, by contract.
   Conditions: the list may be, the places lie in it. -/
import Derived.Test.YtenmmeehgnkcpaaHVal
namespace Go.Proofs.Ytenmmeehgnkcpaa.Q
open Go.RowKit Go.Proofs.YtenmmeehgnkcpaaW.PrintWords Go.Proofs.YtenmmeehgnkcpaaW.PrintLast Go.Proofs.YtenmmeehgnkcpaaW.PrintMore
set_option linter.unusedVariables false
set_option linter.unusedSimpArgs false

def Sees (w w' : World) : Prop := ∀ p v, w.cell? p = some v → w'.cell? p = some v
theorem sees_C28 {w0 w : World} {A : Option Addr} {n : Nat} {xs : List S28} (h : Sees w0 w) (hC : k28.C w0 A n xs) : k28.C w A n xs :=
  ⟨hC.1, hC.2.1, fun hn => by
    obtain ⟨ad, e, hc⟩ := hC.2.2 hn
    refine ⟨ad, e, fun j p hj => ?_⟩
    obtain ⟨c, hs, hr, hcell⟩ := hc j p hj
    exact ⟨c, hs, by obtain rfl := k28_open hr; exact k28_mk _ _, fun i u hu => h _ _ (hcell i u hu)⟩⟩
theorem sees_CI {w0 w : World} {A : Option Addr} {n : Nat} {xs : List Int} (h : Sees w0 w) (hC : (Kd.int .i64).C w0 A n xs) : (Kd.int .i64).C w A n xs :=
  ⟨hC.1, hC.2.1, fun hn => by
    obtain ⟨ad, e, hc⟩ := hC.2.2 hn
    refine ⟨ad, e, fun j p hj => ?_⟩
    obtain ⟨c, hs, hr, hcell⟩ := hc j p hj
    exact ⟨c, hs, hr, fun i u hu => h _ _ (hcell i u hu)⟩⟩
theorem sees_old {w w' : World} (h : ∀ k, k < w.heap.size → w'.heap[k]? = w.heap[k]?) : Sees w w' := fun p v hp => by
  have hlt : p.block < w.heap.size := by
    rcases Nat.lt_or_ge p.block w.heap.size with hl | hl
    · exact hl
    · unfold World.cell? at hp
      rw [Array.getElem?_eq_none (by omega)] at hp
      cases hp
  unfold World.cell? at hp ⊢
  rwa [h _ hlt]
theorem V_of28 {w : World} {A : Option Addr} {c : Nat} {l : List S28} (hC : k28.C w A l.length l) (hc : l.length ≤ c) : Kd.V k28 28 w w.heap.size (fun k => k < w.heap.size) (.slice A l.length c) l :=
  ⟨A, c, rfl, hc, fun w' hw => sees_C28 (sees_old fun k hk => hw k hk hk) hC⟩
theorem V_ofI {w : World} {A : Option Addr} {c : Nat} {l : List Int} (hC : (Kd.int .i64).C w A l.length l) (hc : l.length ≤ c) : Kd.V (Kd.int .i64) 3 w w.heap.size (fun k => k < w.heap.size) (.slice A l.length c) l :=
  ⟨A, c, rfl, hc, fun w' hw => sees_CI (sees_old fun k hk => hw k hk hk) hC⟩
theorem few21_calls (A0 : Option Addr) (c0 : Nat) (l0 : List S28) (A1 : Option Addr) (c1 : Nat) (l1 : List Int) (w : World) (hr0 : k28.C w A0 l0.length l0) (hc0 : l0.length ≤ c0) (hr1 : (Kd.int .i64).C w A1 l1.length l1) (hc1 : l1.length ≤ c1) :
    Calls Try.prog 17 #[.slice A0 l0.length c0, .slice A1 l1.length c1] w fun e w' => (∃ A c B d, e = .returned (.tuple #[.slice A (l0.take 30).length c, .slice B (l1.take 12).length d]) ∧ (l0.take 30).length ≤ c ∧ (l1.take 12).length ≤ d ∧ k28.C w' A (l0.take 30).length (l0.take 30) ∧ (Kd.int .i64).C w' B (l1.take 12).length (l1.take 12)) ∧ Below w.heap.size w w' := by
  refine (demurrallaw21_few.calls _ A0 c0 l0 _ A1 c1 l1 _ _ w (V_of28 hr0 hc0) (V_ofI hr1 hc1) (few_f l0 l1)).mono ?_
  rintro e w' ⟨v0, v1, rfl, h0, h1, hb⟩
  obtain ⟨A, c, rfl⟩ := Kd.V_slice h0
  obtain ⟨B, d, rfl⟩ := Kd.V_slice h1
  obtain ⟨_, p1, p2⟩ := Kd.V_reads' h0
  obtain ⟨_, q1, q2⟩ := Kd.V_reads' h1
  exact ⟨⟨A, c, B, d, rfl, p1, q1, p2, q2⟩, hb⟩
/-- One list of facts within another. -/
def leB (a b : List Bool) : Prop := ∀ i : Int, isAt a i = true → isAt b i = true
theorem le_any {l : List S28} {a b : List Bool} (h : leB a b) {p q : S28 → Bool} (hpq : ∀ t, p t = true → q t = true) (hp : anyF l a p = true) : anyF l b q = true := by
  unfold anyF at hp ⊢
  rw [List.any_eq_true] at hp ⊢
  obtain ⟨j, hj, hh⟩ := hp
  obtain ⟨h1, h2⟩ := Bool.and_eq_true_iff.1 hh
  exact ⟨j, hj, by rw [h _ h1, hpq _ h2]; rfl⟩
theorem le_point {l : List S28} {a b : List Bool} (h : leB a b) (i : Int) (hp : pointB l a i = true) : pointB l b i = true := by
  unfold pointB at hp ⊢
  rw [Bool.or_eq_true] at hp ⊢
  rcases hp with hp | hp
  · exact .inl (h _ hp)
  · exact .inr (le_any h (fun t ht => ht) hp)
theorem le_told {l : List S28} {a b : List Bool} (h : leB a b) (i : Int) (hp : toldB l a i = true) : toldB l b i = true := by
  unfold toldB at hp ⊢
  simp only [Bool.or_eq_true] at hp ⊢
  rcases hp with hp | hp | hp | hp | hp | hp
  · exact .inl (h _ hp)
  · refine .inr (.inl ?_)
    unfold q2B at hp ⊢
    obtain ⟨h1, h2⟩ := Bool.and_eq_true_iff.1 hp
    rw [h1, h _ h2]
    rfl
  · refine .inr (.inr (.inl ?_))
    unfold q3B at hp ⊢
    obtain ⟨h1, h2⟩ := Bool.and_eq_true_iff.1 hp
    obtain ⟨h3, h4⟩ := Bool.and_eq_true_iff.1 h2
    rw [h1, h _ h3, h _ h4]
    rfl
  · refine .inr (.inr (.inr (.inl ?_)))
    unfold q4B at hp ⊢
    obtain ⟨h1, h2⟩ := Bool.and_eq_true_iff.1 hp
    rw [h1, Bool.true_and, Bool.or_eq_true]
    rcases Bool.or_eq_true_iff.1 h2 with h3 | h3
    · obtain ⟨h4, h5⟩ := Bool.and_eq_true_iff.1 h3
      exact .inl (by rw [h _ h4, le_point h _ h5]; rfl)
    · obtain ⟨h4, h5⟩ := Bool.and_eq_true_iff.1 h3
      exact .inr (by rw [h _ h4, le_point h _ h5]; rfl)
  · exact .inr (.inr (.inr (.inr (.inl (le_any h (fun t ht => ht) hp)))))
  · refine .inr (.inr (.inr (.inr (.inr (le_any h (fun t ht => ?_) hp)))))
    unfold so6 at ht ⊢
    obtain ⟨h1, h2⟩ := Bool.and_eq_true_iff.1 ht
    rw [h1, h _ h2]
    rfl
theorem isAt_dom {is : List Bool} {i : Int} (h : isAt is i = true) (n : Nat) (hn : is.length = n) (h0 : 0 ≤ i) : i < n := by
  obtain ⟨j, rfl⟩ : ∃ j : Nat, (j : Int) = i := ⟨i.toNat, Int.toNat_of_nonneg h0⟩
  rw [isAt_nat] at h
  cases hq : is[j]? with
  | none => rw [hq] at h; cases h
  | some b => have := (List.getElem?_eq_some_iff.1 hq).1; omega
/-- At the places alone. -/
def leN (a b : List Bool) : Prop := ∀ j : Nat, isAt a (j : Int) = true → isAt b (j : Int) = true
theorem isAt_neg (is : List Bool) (i : Int) (h : i < 0) : isAt is i = isAt is 0 := by
  unfold isAt rdOf
  rw [Int.toNat_of_nonpos (by omega)]
  rfl
theorem le_of {a b : List Bool} (h : leN a b) : leB a b := fun i hi => by
  by_cases h0 : 0 ≤ i
  · obtain ⟨j, rfl⟩ : ∃ j : Nat, (j : Int) = i := ⟨i.toNat, Int.toNat_of_nonneg h0⟩
    exact h j hi
  · rw [isAt_neg _ _ (by omega)] at hi ⊢
    exact h 0 hi
theorem le_next {l : List S28} {a b : List Bool} (h : leB a b) : leB (nextB l a) (nextB l b) := le_of fun j hj => by
  have hlt := isAt_dom hj l.length (nextB_len _ _) (by omega)
  rw [isAt_next l _ _ (by omega) hlt] at hj ⊢
  exact le_told h _ hj
theorem le_it {l : List S28} {a b : List Bool} (h : leB a b) : ∀ t, leB (itB l a t) (itB l b t)
  | 0 => h
  | t + 1 => le_next (le_it h t)
theorem le_self {l : List S28} {a : List Bool} (h : a.length = l.length) : ∀ t, leB a (itB l a t)
  | 0 => fun i hi => hi
  | t + 1 => le_of fun j hj => by
    have h1 := le_self h t j hj
    have hlt := isAt_dom hj l.length h (by omega)
    show isAt (nextB l _) _ = true
    rw [isAt_next l _ _ (by omega) hlt]
    unfold toldB
    rw [h1]
    rfl
theorem it_of_fixed {l : List S28} {a : List Bool} (h : nextB l a = a) : ∀ t, itB l a t = a
  | 0 => rfl
  | t + 1 => by
    show nextB l (itB l a t) = a
    rw [it_of_fixed h t, h]
section
variable {l : List S28} {ks : List Int} (hw : whyD l ks = 0)
include hw
theorem why_all : ks.all (inL l.length) = true := by
  cases hp : ks.all (inL l.length) with
  | true => rfl
  | false => rw [why_out (why_right hw) hp] at hw; cases hw
theorem allR_eq : allR l ks = (placesL (allB l (ofL l.length ks)), 0) := if_pos hw
omit hw in
theorem told_in : (placesL (allB l (ofL l.length ks))).all (inL l.length) = true := by
  rw [List.all_eq_true]
  intro k hk
  obtain ⟨h0, h1⟩ := places_inR l _ (it_len l _ (ofL_len _ _) _) k hk
  unfold inL
  rw [decide_eq_true h0, decide_eq_true h1]
  rfl
theorem again_eq : allR l (placesL (allB l (ofL l.length ks))) = (placesL (allB l (ofL l.length ks)), 0) := by
  unfold allR
  rw [if_pos (why_in (why_right hw) told_in), of_places _ (allB l (ofL l.length ks)) (it_len l _ (ofL_len _ _) _)]
  congr 2
  exact it_of_fixed (all_fixed l _ (ofL_len _ _)) _
theorem step_eq : stepR l (placesL (allB l (ofL l.length ks))) = (placesL (allB l (ofL l.length ks)), 0) := by
  unfold stepR
  rw [if_pos (why_in (why_right hw) told_in), of_places _ (allB l (ofL l.length ks)) (it_len l _ (ofL_len _ _) _), all_fixed l _ (ofL_len _ _)]
theorem known_told (k : Int) (hk : k ∈ ks) : hasN (placesL (allB l (ofL l.length ks))) k = true := by
  obtain ⟨h0, h1⟩ := inR_of (why_all hw) k hk
  rw [hasN_places _ _ h0]
  refine le_self (ofL_len _ _) _ _ ?_
  rw [isAt_of _ _ _ h0 h1]
  exact hasN_iff.2 hk
variable {i : Int} (h0 : 0 ≤ i) (h1 : i < l.length)
include h0 h1
theorem why_more : whyD l (ks ++ [i]) = 0 := why_in (why_right hw) (by rw [all_snoc, why_all hw]; unfold inL; rw [decide_eq_true h0, decide_eq_true h1]; rfl)
omit hw h0 h1 in
theorem more_told (k : Int) (hk : k ∈ placesL (allB l (ofL l.length ks))) : hasN (placesL (allB l (ofL l.length (ks ++ [i])))) k = true := by
  obtain ⟨k0, k1⟩ := places_inR l _ (it_len l _ (ofL_len _ _) _) k hk
  rw [hasN_places _ _ k0]
  refine le_it (le_of fun j hj => ?_) _ _ ((hasN_places _ _ k0).symm.trans (hasN_iff.2 hk))
  have hlt := isAt_dom hj l.length (ofL_len _ _) (by omega)
  rw [isAt_of _ _ _ (by omega) hlt] at hj ⊢
  exact hasN_iff.2 (List.mem_append.2 (.inl (hasN_iff.1 hj)))
theorem one_told : hasN (placesL (allB l (ofL l.length (ks ++ [i])))) i = true := known_told (why_more hw h0 h1) i (List.mem_append.2 (.inr (List.mem_singleton.2 rfl)))
end
end Go.Proofs.Ytenmmeehgnkcpaa.Q
