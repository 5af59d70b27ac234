/- deduce's Step, All, Can, and as plain functions with their contracts, as the printer takes them.
   Conditions: the list is read as terms whose numbers are of 64 bits, the places as ints. -/
import Derived.Test.YtenmmeehgnkcpaaHGoes
import Derived.Test.YtenmmeehgnkcpaaQx149
import Derived.Test.YtenmmeehgnkcpaaQx150
import Derived.Test.YtenmmeehgnkcpaaQx122
namespace Go.Proofs.Ytenmmeehgnkcpaa.Q
open Go.RowKit Go.Proofs.YtenmmeehgnkcpaaW.PrintWords Go.Proofs.YtenmmeehgnkcpaaW.PrintLast Go.Proofs.YtenmmeehgnkcpaaW.PrintMore
set_option linter.unusedVariables false
set_option linter.unusedSimpArgs false

/-! ### HCan -/
/-- The places that are, from one on. -/
def placesFrom (is : List Bool) : Nat → Nat → List Int
  | 0, _ => []
  | m + 1, i => if rdOf false is (i : Int) = true then (i : Int) :: placesFrom is m (i + 1) else placesFrom is m (i + 1)
def placesL (is : List Bool) : List Int := placesFrom is is.length 0
theorem places_l0 (is : List Bool) (hl : is.length ≤ 1000000) : ∀ (m k i : Nat) (out : List Int), i + m = is.length → m < k → out.length ≤ i →
    deduce_facts_places.l0 k out is (is.length : Int) (i : Int) = some (out ++ placesFrom is m i) := by
  intro m
  induction m with
  | zero =>
    intro k i out hi hk ho
    obtain ⟨k, rfl⟩ : ∃ k', k = k' + 1 := ⟨k - 1, by omega⟩
    rw [deduce_facts_places.l0, if_neg (by omega)]
    simp [placesFrom]
  | succ m ih =>
    intro k i out hi hk ho
    obtain ⟨k, rfl⟩ : ∃ k', k = k' + 1 := ⟨k - 1, by omega⟩
    rw [deduce_facts_places.l0, if_pos (by omega), if_pos (by omega), if_pos (by omega), nx i (by omega), placesFrom]
    by_cases h : rdOf false is (i : Int) = true
    · rw [if_pos h, if_pos h, if_pos (by omega), ih k (i + 1) _ (by omega) (by omega) (by rw [List.length_append, List.length_singleton]; omega), List.append_assoc]
      rfl
    · rw [if_neg h, if_neg h, ih k (i + 1) _ (by omega) (by omega) (by omega)]
theorem places_f (l : List S28) (is : List Bool) (hl : is.length ≤ 1000000) (k : Nat) (hk : is.length < k) : deduce_facts_places.f k l is = some (placesL is) := by
  unfold deduce_facts_places.f placesL
  rw [show (0 : Int) = ((0 : Nat) : Int) from rfl, places_l0 is hl is.length k 0 [] (by omega) hk (by simp)]
  rfl
theorem places_calls (A : Option Addr) (c : Nat) (l : List S28) (B : Option Addr) (d : Nat) (is : List Bool) (w : World) (hF : FS A c l B d is w) :
    Calls Try.prog 50 #[fv A l.length c B l.length d] w fun e w' => (∃ v, e = .returned v ∧ Kd.R (Kd.int .i64) 3 w' w.heap.size (fun _ => True) v (placesL is)) ∧ Below w.heap.size w w' := by
  have h := deduce_facts_places.calls (is.length + 1) A c l B d is (placesL is) w hF.hC hF.hc (by rw [hF.hn]; exact hF.hD) (by rw [hF.hn]; exact hF.hd) (places_f l is (by rw [hF.hn]; exact hF.hl) _ (by omega))
  rw [hF.hn] at h
  exact h.mono fun e w' ⟨v, h1, h2, h3⟩ => ⟨⟨v, h1, h2⟩, h3⟩
theorem why_right {l : List S28} {ks : List Int} (h : whyD l ks = 0) : rightB l = true := by
  unfold whyD at h
  by_cases hr : rightB l = true
  · exact hr
  · rw [if_neg hr] at h
    cases h
def AnsE (base : Nat) (p : List Int × Int) (e : Ending) (w' : World) : Prop := ∃ v, e = .returned (.tuple #[v, .int .i64 p.2]) ∧ Kd.R (Kd.int .i64) 3 w' base (fun _ => True) v p.1
def stepR (l : List S28) (ks : List Int) : List Int × Int := if whyD l ks = 0 then (placesL (nextB l (ofL l.length ks)), 0) else ([], whyD l ks)
set_option maxHeartbeats 2000000 in
set_option maxRecDepth 100000 in
theorem step_calls (A : Option Addr) (c : Nat) (l : List S28) (K : Option Addr) (ck : Nat) (ks : List Int) (w : World) (hC : k28.C w A l.length l) (hc : l.length ≤ c) (hlen : l.length ≤ 1000000) (hwf : ∀ t ∈ l, wfT t)
    (hK : (Kd.int .i64).C w K ks.length ks) (hck : ks.length ≤ ck) (hkl : ks.length ≤ 1000000) :
    Calls Try.prog 20 #[.slice A l.length c, .slice K ks.length ck] w fun e w' => AnsE w.heap.size (stepR l ks) e w' ∧ Below w.heap.size w w' := by
  have hof := Aside0.mk (of_calls A c l K ck ks w hC hc hlen hwf hK hck hkl)
  clear hC hK hwf
  go_enter Try.func20, Try.ntmps20
  go_wp2_with fail
  refine hof.out.mono ?_; rintro e_ w2 ⟨hE, hb2⟩
  obtain ⟨w3, hw3⟩ : ∃ w3, w2.alloc (.cells #[.slice none 0 0, .slice none 0 0] 80 (0, 0)) = w3 := ⟨_, rfl⟩
  have hb3 : Below w2.heap.size w2 w3 := by rw [← hw3]; exact below_alloc (Below.refl _ _) _
  have hK3 : w3.heap[w2.heap.size]? = some (.cells #[.slice none 0 0, .slice none 0 0] 80 (0, 0)) := by rw [← hw3]; exact heap_alloc_new _ _
  have hB3 := below_step hb2 hb3
  have hs2 := Lib.hid hb2.size
  clear hof
  rcases hE with ⟨hne, rfl⟩ | ⟨h0, gi, rfl, hF⟩
  · have hans := Lib.hid (show stepR l ks = ([], whyD l ks) from if_neg hne)
    obtain ⟨q, hq⟩ : ∃ q, whyD l ks = q := ⟨_, rfl⟩
    rw [hq] at hne hans
    replace hq := Lib.hid hq
    have hne1 : (q == 0) = false := beq_eq_false_iff_ne.2 hne
    have hne2 : (q != 0) = true := bne_iff_ne.2 hne
    rw [hq.out]
    go_wp2_with ((with_reducible refine gate_store (t := 80) (p := 6) rfl ?_); go_loud (refine wpList_storeBox rfl rfl 80 (.tmp 6) (.tmp 12) rfl (fv none 0 0 none 0 0) [.slice none 0 0, .slice none 0 0] rfl rfl rfl (by kernel_rfl) (by simp [Value.oneCell']) hK3 rfl ?_); intro w4 hK4 hg4 hs4)
    have hB4 := Aside0.mk (hB3.grown hg4 hB3.size (fun k hk => by injection hk with hk; have := hs2.out; omega))
    clear hg4 hs4 hK4 hK3 hB3 hb3 hb2
    go_wp2
    go_ret2
    exact ⟨⟨_, by rw [hans.out]; rfl, by rw [hans.out]; exact Kd.R_nil _ _ _ _ _⟩, hB4.out⟩
  · have hans := Lib.hid (show stepR l ks = (placesL (nextB l (ofL l.length ks)), 0) from if_pos h0)
    replace h0 := Lib.hid h0
    have hF3 := hF.below hb3
    have hC2 := Aside0.mk hF.hC
    go_wp2_with ((with_reducible refine gate_store (t := 80) (p := 6) rfl ?_); go_loud (refine wpList_storeBox rfl rfl 80 (.tmp 6) (.tmp 12) rfl (fv A l.length c (some ⟨gi, 0, none⟩) l.length l.length) [.slice A l.length c, .slice (some ⟨gi, 0, none⟩) l.length l.length] rfl rfl rfl (by kernel_rfl) (by simp [Value.oneCell']) hK3 rfl ?_); intro w4 hK4 hg4 hs4; obtain ⟨x0, x1⟩ := box2 hK4)
    have hB4 := hB3.grown hg4 hB3.size (fun k hk => by injection hk with hk; have := hs2.out; omega)
    have hb34 := hb3.grown hg4 hb3.size (fun k hk => by injection hk with hk; omega)
    have hF4 := hF.below hb34
    replace hF4 := Aside0.mk hF4
    replace hB4 := Aside0.mk hB4
    replace hb34 := Aside0.mk hb34
    clear hg4 hs4 hK3 hB3 hb3 hb2 hF hF3
    have hnext := Aside0.mk (next_calls A c l (some ⟨gi, 0, none⟩) l.length (ofL l.length ks) w4 hF4.out (range_of (why_right h0.out)))
    clear hF4
    refine hnext.out.mono ?_; rintro e_ w5 ⟨⟨g5, rfl, ⟨hg5a, hg5b⟩, hF5⟩, hb5⟩
    have hpl := Aside0.mk (places_calls A c l (some ⟨g5, 0, none⟩) l.length (nextB l (ofL l.length ks)) w5 hF5)
    clear hF5 hnext x0 x1 hK4
    go_wp2_with fail
    refine hpl.out.mono ?_; rintro e_ w6 ⟨⟨v, rfl, hD⟩, hb6⟩
    have hB6 := Aside0.mk (below_step (below_step hB4.out hb5) hb6)
    replace hD := Kd.R_lower hD (below_step hB4.out hb5).size
    have hfin : Aside0 (AnsE w.heap.size (stepR l ks) (.returned (.tuple #[v, .int .i64 0])) w6) := Aside0.mk ⟨v, by rw [hans.out], by rw [hans.out]; exact hD⟩
    clear hD hb5 hb6 hpl
    go_wp2
    go_ret2
    exact ⟨hfin.out, hB6.out⟩
theorem equal_l0 (a b : List Bool) (hl : a.length ≤ 1000000) (hab : a.length = b.length) : ∀ (m k i : Nat), i + m = a.length → m < k →
    slices_Equal_bool_bool.l0 k a b (a.length : Int) (i : Int) = some (decide (a.drop i = b.drop i)) := by
  intro m
  induction m with
  | zero =>
    intro k i hi hk
    obtain ⟨k, rfl⟩ : ∃ k', k = k' + 1 := ⟨k - 1, by omega⟩
    rw [slices_Equal_bool_bool.l0, if_neg (by omega), List.drop_eq_nil_of_le (by omega), List.drop_eq_nil_of_le (by omega)]
    rfl
  | succ m ih =>
    intro k i hi hk
    obtain ⟨k, rfl⟩ : ∃ k', k = k' + 1 := ⟨k - 1, by omega⟩
    have ea : rdOf false a (i : Int) = a[i] := by simp [rdOf, show i < a.length by omega]
    have eb : rdOf false b (i : Int) = b[i] := by simp [rdOf, show i < b.length by omega]
    have hd : (a.drop i = b.drop i) ↔ (a[i] = b[i] ∧ a.drop (i + 1) = b.drop (i + 1)) := by
      have da : a.drop i = a[i] :: a.drop (i + 1) := List.drop_eq_getElem_cons (show i < a.length by omega)
      have db : b.drop i = b[i] :: b.drop (i + 1) := List.drop_eq_getElem_cons (show i < b.length by omega)
      rw [da, db, List.cons.injEq]
    rw [slices_Equal_bool_bool.l0, if_pos (by omega), if_pos (by omega), if_pos (by omega), if_pos (by omega), nx i (by omega), ih k (i + 1) (by omega) (by omega), ea, eb]
    by_cases h : a[i] = b[i]
    · rw [if_neg (by simp [h])]
      simp only [hd, h, true_and]
    · rw [if_pos (by simpa using h)]
      simp only [hd, h, false_and, decide_false]
theorem equal_f (a b : List Bool) (hl : a.length ≤ 1000000) (hab : a.length = b.length) (k : Nat) (hk : a.length < k) : slices_Equal_bool_bool.f k a b = some (decide (a = b)) := by
  unfold slices_Equal_bool_bool.f
  rw [if_pos (by omega), show (0 : Int) = ((0 : Nat) : Int) from rfl, equal_l0 a b hl hab a.length k 0 (by omega) hk]
  simp
/-- The facts behind so many steps. -/
def itB (l : List S28) (is : List Bool) : Nat → List Bool
  | 0 => is
  | t + 1 => nextB l (itB l is t)
def allB (l : List S28) (is : List Bool) : List Bool := itB l is l.length
def cntB (is : List Bool) : Nat := is.count true
theorem cnt_mono : ∀ (a b : List Bool), a.length = b.length → (∀ j : Nat, a[j]? = some true → b[j]? = some true) → cntB a ≤ cntB b ∧ (a ≠ b → cntB a < cntB b)
  | [], [], _, _ => ⟨Nat.le_refl _, fun h => absurd rfl h⟩
  | [], _ :: _, h, _ => by simp at h
  | _ :: _, [], h, _ => by simp at h
  | x :: a, y :: b, h, hp => by
    obtain ⟨h1, h2⟩ := cnt_mono a b (by simpa using h) (fun j hj => by simpa using hp (j + 1) (by simpa using hj))
    have h0 : x = true → y = true := fun e => by simpa using hp 0 (by simpa using e)
    unfold cntB at *
    rw [List.count_cons, List.count_cons]
    cases x with
    | true =>
      obtain rfl := h0 rfl
      refine ⟨by simpa using h1, fun hne => ?_⟩
      have := h2 (fun e => hne (by rw [e]))
      simpa using this
    | false =>
      cases y with
      | true =>
        simp only [beq_self_eq_true, if_true]
        exact ⟨by simp; omega, fun _ => by simp; omega⟩
      | false =>
        refine ⟨by simpa using h1, fun hne => ?_⟩
        have := h2 (fun e => hne (by rw [e]))
        simpa using this
theorem isAt_nat (is : List Bool) (j : Nat) : isAt is (j : Int) = is[j]?.getD false := by simp [isAt, rdOf]
theorem next_ge (l : List S28) (is : List Bool) (h : is.length = l.length) (j : Nat) (hj : is[j]? = some true) : (nextB l is)[j]? = some true := by
  have hlt := (List.getElem?_eq_some_iff.1 hj).1
  unfold nextB
  rw [List.getElem?_map, List.getElem?_range (by omega)]
  simp only [Option.map_some, Option.some.injEq]
  unfold toldB
  rw [isAt_nat, hj]
  rfl
theorem it_len (l : List S28) (is : List Bool) (h : is.length = l.length) : ∀ t, (itB l is t).length = l.length
  | 0 => h
  | t + 1 => nextB_len _ _
theorem cnt_le (is : List Bool) : cntB is ≤ is.length := List.count_le_length
theorem it_step (l : List S28) (is : List Bool) (h : is.length = l.length) (t : Nat) (hne : nextB l (itB l is t) ≠ itB l is t) (hc : t ≤ cntB (itB l is t)) : t + 1 ≤ cntB (itB l is (t + 1)) := by
  have := (cnt_mono (itB l is t) (nextB l (itB l is t)) (by rw [nextB_len, it_len l is h]) (next_ge l _ (it_len l is h t))).2 (fun e => hne e.symm)
  show t + 1 ≤ cntB (nextB l (itB l is t))
  omega
theorem it_fixed (l : List S28) (is : List Bool) (t : Nat) (hf : nextB l (itB l is t) = itB l is t) : ∀ s, itB l is (t + s) = itB l is t
  | 0 => rfl
  | s + 1 => by
    show nextB l (itB l is (t + s)) = _
    rw [it_fixed l is t hf s, hf]
theorem all_fixed (l : List S28) (is : List Bool) (h : is.length = l.length) : nextB l (allB l is) = allB l is := by
  by_cases hx : ∃ t, t ≤ l.length ∧ nextB l (itB l is t) = itB l is t
  · obtain ⟨t, ht, hf⟩ := hx
    have := it_fixed l is t hf (l.length - t)
    rw [show t + (l.length - t) = l.length by omega] at this
    unfold allB
    rw [this, hf]
  · exfalso
    have key : ∀ t, t ≤ l.length + 1 → t ≤ cntB (itB l is t) := by
      intro t
      induction t with
      | zero => intro _; exact Nat.zero_le _
      | succ t ih => intro ht; exact it_step l is h t (fun e => hx ⟨t, by omega, e⟩) (ih (by omega))
    have h1 := key (l.length + 1) (Nat.le_refl _)
    have h2 := cnt_le (itB l is (l.length + 1))
    rw [it_len l is h] at h2
    omega
theorem all_eq (l : List S28) (is : List Bool) (h : is.length = l.length) (t : Nat) (hf : nextB l (itB l is t) = itB l is t) : itB l is t = allB l is := by
  by_cases ht : t ≤ l.length
  · have := it_fixed l is t hf (l.length - t)
    rw [show t + (l.length - t) = l.length by omega] at this
    exact this.symm
  · have := it_fixed l is l.length (all_fixed l is h) (t - l.length)
    rw [show l.length + (t - l.length) = t by omega] at this
    exact this
def allR (l : List S28) (ks : List Int) : List Int × Int := if whyD l ks = 0 then (placesL (allB l (ofL l.length ks)), 0) else ([], whyD l ks)
set_option maxHeartbeats 2000000 in
set_option maxRecDepth 100000 in
theorem all_calls (A : Option Addr) (c : Nat) (l : List S28) (K : Option Addr) (ck : Nat) (ks : List Int) (w : World) (hC : k28.C w A l.length l) (hc : l.length ≤ c) (hlen : l.length ≤ 1000000) (hwf : ∀ t ∈ l, wfT t)
    (hK : (Kd.int .i64).C w K ks.length ks) (hck : ks.length ≤ ck) (hkl : ks.length ≤ 1000000) :
    Calls Try.prog 18 #[.slice A l.length c, .slice K ks.length ck] w fun e w' => AnsE w.heap.size (allR l ks) e w' ∧ Below w.heap.size w w' := by
  have hof := Aside0.mk (of_calls A c l K ck ks w hC hc hlen hwf hK hck hkl)
  clear hC hK hwf
  go_enter Try.func18, Try.ntmps18
  go_wp2_with fail
  refine hof.out.mono ?_; rintro e_ w2 ⟨hE, hb2⟩
  obtain ⟨w3, hw3⟩ : ∃ w3, w2.alloc (.cells #[.slice none 0 0, .slice none 0 0] 80 (0, 0)) = w3 := ⟨_, rfl⟩
  have hb3 : Below w2.heap.size w2 w3 := by rw [← hw3]; exact below_alloc (Below.refl _ _) _
  have hK3 : w3.heap[w2.heap.size]? = some (.cells #[.slice none 0 0, .slice none 0 0] 80 (0, 0)) := by rw [← hw3]; exact heap_alloc_new _ _
  have hB3 := below_step hb2 hb3
  have hs2 := Lib.hid hb2.size
  clear hof
  rcases hE with ⟨hne, rfl⟩ | ⟨h0, gi, rfl, hF⟩
  · have hans := Lib.hid (show allR l ks = ([], whyD l ks) from if_neg hne)
    obtain ⟨q, hq⟩ : ∃ q, whyD l ks = q := ⟨_, rfl⟩
    rw [hq] at hne hans
    replace hq := Lib.hid hq
    have hne1 : (q == 0) = false := beq_eq_false_iff_ne.2 hne
    have hne2 : (q != 0) = true := bne_iff_ne.2 hne
    rw [hq.out]
    go_wp2_with ((with_reducible refine gate_store (t := 80) (p := 6) rfl ?_); go_loud (refine wpList_storeBox rfl rfl 80 (.tmp 6) (.tmp 13) rfl (fv none 0 0 none 0 0) [.slice none 0 0, .slice none 0 0] rfl rfl rfl (by kernel_rfl) (by simp [Value.oneCell']) hK3 rfl ?_); intro w4 hK4 hg4 hs4)
    have hB4 := Aside0.mk (hB3.grown hg4 hB3.size (fun k hk => by injection hk with hk; have := hs2.out; omega))
    clear hg4 hs4 hK4 hK3 hB3 hb3 hb2
    go_wp2
    go_ret2
    exact ⟨⟨_, by rw [hans.out]; rfl, by rw [hans.out]; exact Kd.R_nil _ _ _ _ _⟩, hB4.out⟩
  · have hans := Lib.hid (show allR l ks = (placesL (allB l (ofL l.length ks)), 0) from if_pos h0)
    replace h0 := Lib.hid h0
    have hF3 := hF.below hb3
    have hC2 := Aside0.mk hF.hC
    go_wp2_with ((with_reducible refine gate_store (t := 80) (p := 6) rfl ?_); go_loud (refine wpList_storeBox rfl rfl 80 (.tmp 6) (.tmp 13) rfl (fv A l.length c (some ⟨gi, 0, none⟩) l.length l.length) [.slice A l.length c, .slice (some ⟨gi, 0, none⟩) l.length l.length] rfl rfl rfl (by kernel_rfl) (by simp [Value.oneCell']) hK3 rfl ?_); intro w4 hK4 hg4 hs4)
    have hB4 := hB3.grown hg4 hB3.size (fun k hk => by injection hk with hk; have := hs2.out; omega)
    have hb34 := hb3.grown hg4 hb3.size (fun k hk => by injection hk with hk; omega)
    have hF4 := hF.below hb34
    replace hF4 := Aside0.mk hF4
    replace hB4 := Aside0.mk hB4
    replace hb34 := Aside0.mk hb34
    clear hg4 hs4 hK3 hB3 hb3 hb2 hF hF3
    have hR := Lib.hid (why_right h0.out)
    have hol := Lib.hid (ofL_len l.length ks)
    obtain ⟨gb, hgb⟩ : ∃ g, w2.heap.size = g := ⟨_, rfl⟩
    rw [hgb] at hK4 hs2
    have hb34' := Aside0.mk hb34.out
    obtain ⟨is0, his0⟩ : ∃ b, ofL l.length ks = b := ⟨_, rfl⟩
    rw [his0] at hans hol hF4
    rw [hgb]
    replace hgb := Lib.hid hgb
    replace his0 := Lib.hid his0
    have x0 := Aside0.mk hK4
    clear hK4 hb34 h0 hw3
    go_wp2
    go_loopg [] l.length (fun k wr => ∃ (t : Nat) (is : List Bool) (g : Nat), k + t = l.length ∧ is = itB l is0 t ∧ t ≤ cntB is ∧ wr.heap[gb]? = some (.cells #[.slice A l.length c, .slice (some ⟨g, 0, none⟩) l.length l.length] 80 (0, 0)) ∧ FS A c l (some ⟨g, 0, none⟩) l.length is wr ∧ Below w.heap.size w wr ∧ Below w2.heap.size w2 wr)
    case atStart => exact ⟨0, is0, gi, by omega, rfl, Nat.zero_le _, x0.out, hF4.out, hB4.out, hb34'.out⟩
    case round =>
      obtain ⟨t, is, g, hkt, his, hcnt, hbox, hFr, hB, hBb⟩ := hrel
      clear x0 hF4 hB4 hb34'
      have hnext := Aside0.mk (next_calls A c l (some ⟨g, 0, none⟩) l.length is wr hFr (range_of hR.out))
      obtain ⟨x0, x1⟩ := box2 hbox
      replace hkt := Lib.hid hkt
      replace his := Lib.hid his
      replace hcnt := Lib.hid hcnt
      have hBr := Aside0.mk hB
      replace hFr := Aside0.mk hFr
      replace hbox := Aside0.mk hbox
      clear hB
      go_wp2_with fail
      refine hnext.out.mono ?_; rintro e_ w5 ⟨⟨g5, rfl, ⟨hg5a, hg5b⟩, hF5⟩, hb5⟩
      clear hnext x0 x1
      have hg5a' := Lib.hid (show g5 ≠ gb from by have := blk_lt hbox.out; omega)
      replace hg5b := Aside0.mk hg5b
      clear hg5a
      have hbox5 := (hb5.block _ (blk_lt hbox.out)).trans hbox.out
      obtain ⟨w6, hw6⟩ : ∃ w6, w5.alloc (.cells #[.slice none 0 0, .slice none 0 0] 80 (0, 0)) = w6 := ⟨_, rfl⟩
      have hb6 : Below w5.heap.size w5 w6 := by rw [← hw6]; exact below_alloc (Below.refl _ _) _
      have hK6 : w6.heap[w5.heap.size]? = some (.cells #[.slice none 0 0, .slice none 0 0] 80 (0, 0)) := by rw [← hw6]; exact heap_alloc_new _ _
      have hX7 : ∀ w7, w6.grownBy w7 (some w5.heap.size) → w7.heap[gb]? = some (.cells #[.slice A l.length c, .slice (some ⟨g, 0, none⟩) l.length l.length] 80 (0, 0)) := fun w7 hg => (hg.block _ (blk_lt ((hb6.block _ (blk_lt hbox5)).trans hbox5)) (fun e => by injection e with e; have := blk_lt hbox5; omega)).trans ((hb6.block _ (blk_lt hbox5)).trans hbox5)
      replace hX7 := fun w7 h => hX7 w7 h
      go_wp2_with ((with_reducible refine gate_store (t := 80) (p := 8) rfl ?_); go_loud (refine wpList_storeBox rfl rfl 80 (.tmp 8) (.tmp 19) rfl (fv A l.length c (some ⟨g5, 0, none⟩) l.length l.length) [.slice A l.length c, .slice (some ⟨g5, 0, none⟩) l.length l.length] rfl rfl rfl (by kernel_rfl) (by simp [Value.oneCell']) hK6 rfl ?_); intro w7 hK7 hg7 hs7; obtain ⟨y0, y1⟩ := box2 hK7; obtain ⟨x0, x1⟩ := box2 (hX7 w7 hg7))
      have hb57 := hb6.grown hg7 hb6.size (fun k hk => by injection hk with hk; omega)
      have hF7 := hF5.below hb57
      have hFr7 := (hFr.out.below hb5).below hb57
      have hB7 := Aside0.mk (below_step (below_step hBr.out hb5) hb57)
      have hBb7 := Aside0.mk (below_step (below_step hBb hb5) hb57)
      have hrow7 := Aside0.mk ((hb57.block _ (blk_lt hg5b.out)).trans hg5b.out)
      have hbox7 := hX7 w7 hg7
      have heq : Aside0 (Calls Try.prog 49 #[.slice (some ⟨g5, 0, none⟩) l.length l.length, .slice (some ⟨g, 0, none⟩) l.length l.length] w7 fun e w' => e = .returned (.bool (decide (nextB l is = is))) ∧ Drawn0 w7 w') := Aside0.mk (by
        have h := slices_Equal_bool_bool.calls (l.length + 1) (some ⟨g5, 0, none⟩) l.length (nextB l is) (some ⟨g, 0, none⟩) l.length is (decide (nextB l is = is)) w7 (by rw [nextB_len]; exact hF7.hD) (by rw [nextB_len]; exact Nat.le_refl _) (by rw [hFr7.hn]; exact hFr7.hD) (by rw [hFr7.hn]; exact Nat.le_refl _) (equal_f _ _ (by rw [nextB_len]; exact hlen) (by rw [nextB_len, hFr7.hn]) _ (by rw [nextB_len]; omega))
        rw [nextB_len, hFr7.hn] at h
        exact h)
      replace hFr7 := Aside0.mk hFr7
      replace hF7 := Aside0.mk hF7
      replace hK7 := Aside0.mk hK7
      replace hbox7 := Aside0.mk hbox7
      clear hF5 hFr hbox hb6 hb57 hg7 hs7 hX7 hK6 hBr hw6
      refine heq.out.mono ?_; rintro e_ w8 ⟨rfl, hd8⟩
      have hb8 := hd8.below
      have hB8 := Aside0.mk (below_step hB7.out hb8)
      have hBb8 := Aside0.mk (below_step hBb7.out hb8)
      have hrow8 := Aside0.mk ((hb8.block _ (blk_lt hrow7.out)).trans hrow7.out)
      have hbox8 := (hb8.block _ (blk_lt hbox7.out)).trans hbox7.out
      have hK8 := (hb8.block _ (blk_lt hK7.out)).trans hK7.out
      have hF8 := hF7.out.below hb8
      have hFr8 := hFr7.out.below hb8
      clear hd8 heq hF7 hFr7 hbox7 hK7 hB7 y0 y1 x0 x1 hbox5 hb5 hBb hBb7 hrow7 hg5b
      by_cases hfx : nextB l is = is
      · have hall := Lib.hid (show is = allB l is0 from by
          have h1 : nextB l (itB l is0 t) = itB l is0 t := by rw [← his.out]; exact hfx
          rw [his.out]
          exact all_eq l is0 hol.out t h1)
        have hpl := Aside0.mk (places_calls A c l (some ⟨g, 0, none⟩) l.length is w8 hFr8)
        rw [decide_eq_true hfx]
        obtain ⟨x0, x1⟩ := box2 hbox8
        clear hfx hF8 hFr8 hK8 hbox8 hb8
        go_wp2_with fail
        refine hpl.out.mono ?_; rintro e_ w9 ⟨⟨v, rfl, hD⟩, hb9⟩
        replace hD := Kd.R_lower hD hB8.out.size
        have hB9 := Aside0.mk (below_step hB8.out hb9)
        have hfin : Aside0 (AnsE w.heap.size (allR l ks) (.returned (.tuple #[v, .int .i64 0])) w9) := Aside0.mk ⟨v, by rw [hans.out, ← hall.out], by rw [hans.out, ← hall.out]; exact hD⟩
        clear hD hb9 hpl x0 x1
        go_wp2
        go_ret2
        exact ⟨hfin.out, hB9.out⟩
      · have hst := it_step l is0 hol.out t (by rw [← his.out]; exact hfx) (by rw [← his.out]; exact hcnt.out)
        have hle := cnt_le (itB l is0 (t + 1))
        rw [it_len l is0 hol.out] at hle
        have hlt : t + 1 ≤ l.length := by omega
        have hit : nextB l is = itB l is0 (t + 1) := by rw [his.out]; rfl
        rw [decide_eq_false hfx]
        obtain ⟨y0, y1⟩ := box2 hK8
        have hst' := Lib.hid (show t + 1 ≤ cntB (nextB l is) from by rw [hit]; exact hst)
        replace hit := Lib.hid hit
        replace hlt := Lib.hid hlt
        replace hF8 := Aside0.mk hF8
        clear hfx hFr8 hst hle hK8 hb8
        go_wp2_with ((with_reducible refine gate_store (t := 80) (p := 6) rfl ?_); go_loud (refine wpList_storeBox rfl rfl 80 (.tmp 6) (.tmp 27) rfl (fv A l.length c (some ⟨g5, 0, none⟩) l.length l.length) [.slice A l.length c, .slice (some ⟨g5, 0, none⟩) l.length l.length] rfl rfl rfl (by kernel_rfl) (by simp [Value.oneCell']) hbox8 rfl ?_); intro w9 hK9 hg9 hs9)
        have hB9 := hB8.out.grown hg9 hB8.out.size (fun k hk => by injection hk with hk; have := hs2.out; omega)
        have hBb9 : Below w2.heap.size w2 w9 := hBb8.out.grown hg9 hBb8.out.size (fun k hk => by injection hk with hk; have := hgb.out; omega)
        have hrow9 := (hg9.block _ (blk_lt hrow8.out) (fun e => hg5a'.out (by injection e))).trans hrow8.out
        have hCC := bools_cells w9 g5 (nextB l is) (by rw [nextB_len]; exact hlen) hrow9
        rw [nextB_len] at hCC
        have hF9 : FS A c l (some ⟨g5, 0, none⟩) l.length (nextB l is) w9 := ⟨Kd.C_below hC2.out hBb9, hCC, nextB_len _ _, hc, Nat.le_refl _, hlen⟩
        replace hBb9 := Aside0.mk hBb9
        clear hCC hrow9
        replace hF9 := Aside0.mk hF9
        replace hB9 := Aside0.mk hB9
        replace hK9 := Aside0.mk hK9
        clear hF8 hg9 hs9 hbox8 y0 y1
        go_wp2
        go_roundg (l.length - (t + 1))
        case measure => have := hkt.out; have := hlt.out; omega
        case rel => exact ⟨t + 1, nextB l is, g5, by have := hlt.out; omega, hit.out, hst'.out, hK9.out, hF9.out, hB9.out, hBb9.out⟩
theorem clipI_calls (A0 : Option Addr) (c0 : Nat) (l0 : List Int) (w : World) (hc0 : l0.length ≤ c0) :
    Calls Try.prog 23 #[.slice A0 l0.length c0] w fun e w' => e = .returned (.slice A0 l0.length l0.length) ∧ w' = w := by
  go_enter Try.func23, Try.ntmps23
  go_wp2
  go_ret
  exact ⟨rfl, rfl⟩
section
variable {P : Program} {ops : Array Oper} {rest : List Oper} {o : Oper} {a : Act} {Q : Exit → Act → World → Prop}
theorem wpList_appendRun {W w1 : World} {v1 : Value} (hgd : o.guard = none) (s x : Operand) {t : TypeId} {vs vx : Value}
    (ho : o.op = .call { callee := .builtin .append, args := #[s, x], argTypes := #[t, t] }) (hs : a.eval s = vs) (hx : a.eval x = vx) (hr : (Builtin.append_ #[t, t] o.type #[vs, vx]).run P W = .ok v1 w1) (h : wpList P ops Q rest (a.put o.dst v1) w1) :
    wpList P ops Q (o :: rest) a W := by
  refine wpList_plain hgd fun K hK => ?_
  unfold Oper.wp execOp
  simp only [ho, resolve, invoke, builtin, Sem.run_bind, Sem.run_pure, Result.andThen_ok, List.map_toArray, List.map_cons, List.map_nil, hs, hx, hr]
  exact hK _ _ h
end
theorem one_CI {W : World} {i : Int} {g : Nat} (hv : W.heap[g]? = some (.cells #[.int .i64 i] 3 (0, 0))) : (Kd.int .i64).C W (some ⟨g, 0, none⟩) 1 [i] := by
  refine ⟨rfl, by omega, fun _ => ⟨_, rfl, fun j p hj => ?_⟩⟩
  obtain ⟨rfl, rfl⟩ : j = 0 ∧ p = i := by
    rcases j with _ | j
    · exact ⟨rfl, by simpa using hj.symm⟩
    · simp at hj
  refine ⟨[.int .i64 p], rfl, rfl, fun q u hu => ?_⟩
  obtain ⟨rfl, rfl⟩ : q = 0 ∧ u = .int .i64 p := by
    rcases q with _ | q
    · exact ⟨rfl, by simpa using hu.symm⟩
    · simp at hu
  rw [Addr.add_lit, show 0 + (0 * (Kd.int .i64).sz + 0) = 0 by omega, blk_cell hv]
  rfl
/-- append(slices.Clip(ks), i), run: a new row. -/
theorem clipped_run (K : Option Addr) (ks : List Int) (i : Int) (w W : World) (g : Nat) (hK : (Kd.int .i64).C w K ks.length ks) (hb : Below w.heap.size w W) (hg : W.heap[g]? = some (.cells #[.int .i64 i] 3 (0, 0))) (hl : ks.length ≤ 1000000) :
    ∃ A1 c1 w1, (Builtin.append_ #[33, 33] 33 #[.slice K ks.length ks.length, .slice (some ⟨g, 0, none⟩) 1 1]).run Try.prog W = .ok (.slice A1 (ks.length + 1) c1) w1 ∧ ks.length + 1 ≤ c1 ∧ (Kd.int .i64).C w1 A1 (ks.length + 1) (ks ++ [i]) ∧ Below W.heap.size W w1 := by
  obtain ⟨v1, w1, h1, h2, h3⟩ := run_append_clip (P := Try.prog) (Kd.int .i64) (W := W) 33 33 3 (.int .i64 0) 8 Try.underlying33 (by kernel_rfl) rfl (by decide) (by omega) K ks [i] ⟨g, 0, none⟩ 1 (Kd.C_below hK hb) (one_CI hg) (by simp) (fun w1 base ok y cs h => h) (by simp only [List.length_singleton]; omega)
  obtain ⟨A1, c1, rfl, h4, h5⟩ := Kd.R_reads h2
  rw [List.length_append, List.length_singleton] at h1 h4 h5
  exact ⟨A1, c1, w1, h1, h4, h5, h3⟩
theorem rd_natI (ks : List Int) (i : Nat) (h : i < ks.length) : rd ks (i : Int) = ks[i] := by simp [rd, rdOf, h]
theorem indexI_l0 (ks : List Int) (a : Int) (hl : ks.length ≤ 1000000) : ∀ (m k i : Nat), i + m = ks.length → m < k →
    ∃ r, slices_Index_int_int.l0 k ks a (ks.length : Int) (i : Int) = some r ∧ decide (r ≥ 0) = hasN (ks.drop i) a := by
  intro m
  induction m with
  | zero =>
    intro k i hi hk
    obtain ⟨k, rfl⟩ : ∃ k', k = k' + 1 := ⟨k - 1, by omega⟩
    refine ⟨-1, ?_, ?_⟩
    · rw [slices_Index_int_int.l0, if_neg (by omega)]
    · rw [List.drop_eq_nil_of_le (by omega)]
      rfl
  | succ m ih =>
    intro k i hi hk
    obtain ⟨k, rfl⟩ : ∃ k', k = k' + 1 := ⟨k - 1, by omega⟩
    have hd : ks.drop i = ks[i] :: ks.drop (i + 1) := List.drop_eq_getElem_cons (show i < ks.length by omega)
    have hr := rd_natI ks i (by omega)
    unfold hasN at *
    rw [hd, List.any_cons]
    by_cases h : a = ks[i]
    · refine ⟨i, ?_, ?_⟩
      · rw [slices_Index_int_int.l0, if_pos (by omega), if_pos (by omega), if_pos (by omega), hr, if_pos h]
      · rw [show (ks[i] == a) = true from beq_iff_eq.2 h.symm, Bool.true_or, decide_eq_true (by omega)]
    · obtain ⟨r, h1, h2⟩ := ih k (i + 1) (by omega) (by omega)
      refine ⟨r, ?_, ?_⟩
      · rw [slices_Index_int_int.l0, if_pos (by omega), if_pos (by omega), if_pos (by omega), hr, if_neg h, nx i (by omega), h1]
      · rw [show (ks[i] == a) = false from beq_eq_false_iff_ne.2 (fun e => h e.symm), Bool.false_or, h2]
theorem contains_f (ks : List Int) (a : Int) (hl : ks.length ≤ 1000000) (k : Nat) (hk : ks.length < k) : slices_Contains_int_int.f k ks a = some (hasN ks a) := by
  obtain ⟨r, h1, h2⟩ := indexI_l0 ks a hl ks.length k 0 (by omega) hk
  unfold slices_Contains_int_int.f slices_Index_int_int.f
  rw [show (0 : Int) = ((0 : Nat) : Int) from rfl, h1]
  simp only [Option.bind_some]
  rw [show decide (r ≥ ((0 : Nat) : Int)) = hasN (ks.drop 0) a from h2]
  rfl
theorem contains_calls (K : Option Addr) (c : Nat) (ks : List Int) (a : Int) (w : World) (hK : (Kd.int .i64).C w K ks.length ks) (hc : ks.length ≤ c) (hl : ks.length ≤ 1000000) :
    Calls Try.prog 22 #[.slice K ks.length c, .int .i64 a] w fun e w' => e = .returned (.bool (hasN ks a)) ∧ Below w.heap.size w w' :=
  (slices_Contains_int_int.calls (ks.length + 1) K c ks a (hasN ks a) w hK hc (contains_f ks a hl _ (by omega))).mono fun e w' h => ⟨h.1, h.2.below⟩
def canR (l : List S28) (ks : List Int) (i : Int) : Bool × Int := if whyD l (ks ++ [i]) = 0 then (hasN (allR l ks).1 i, 0) else (false, whyD l (ks ++ [i]))
theorem placesFrom_len (is : List Bool) : ∀ m i, (placesFrom is m i).length ≤ m
  | 0, _ => Nat.le_refl _
  | m + 1, i => by
    unfold placesFrom
    have := placesFrom_len is m (i + 1)
    split
    · rw [List.length_cons]; omega
    · omega
theorem allR_len (l : List S28) (ks : List Int) : (allR l ks).1.length ≤ l.length := by
  unfold allR
  split
  · have h1 := placesFrom_len (allB l (ofL l.length ks)) (allB l (ofL l.length ks)).length 0
    have h2 : (allB l (ofL l.length ks)).length = l.length := it_len l _ (ofL_len _ _) _
    show (placesL _).length ≤ _
    unfold placesL
    omega
  · exact Nat.zero_le _
set_option maxHeartbeats 2000000 in
set_option maxRecDepth 100000 in
theorem can_calls (A : Option Addr) (c : Nat) (l : List S28) (K : Option Addr) (ck : Nat) (ks : List Int) (i : Int) (w : World) (hC : k28.C w A l.length l) (hc : l.length ≤ c) (hlen : l.length ≤ 1000000) (hwf : ∀ t ∈ l, wfT t)
    (hK : (Kd.int .i64).C w K ks.length ks) (hck : ks.length ≤ ck) (hkl : ks.length ≤ 900000) :
    Calls Try.prog 16 #[.slice A l.length c, .slice K ks.length ck, .int .i64 i] w fun e w' => e = .returned (.tuple #[.bool (canR l ks i).1, .int .i64 (canR l ks i).2]) ∧ Below w.heap.size w w' := by
  obtain ⟨w1, hw1⟩ : ∃ w1, w.alloc (.cells #[.int .i64 i] 3 (0, 0)) = w1 := ⟨_, rfl⟩
  have hb1 : Below w.heap.size w w1 := by rw [← hw1]; exact below_alloc (Below.refl _ _) _
  have hK1 : w1.heap[w.heap.size]? = some (.cells #[.int .i64 i] 3 (0, 0)) := by rw [← hw1]; exact heap_alloc_new _ _
  obtain ⟨A1, c1, w2, hrun, hc1, hC1, hb2⟩ := clipped_run K ks i w w1 w.heap.size hK hb1 hK1 (by omega)
  have hB2 := below_step hb1 hb2
  have hof := Aside0.mk (of_calls A c l A1 c1 (ks ++ [i]) w2 (Kd.C_below hC hB2) hc hlen hwf (by rw [List.length_append, List.length_singleton]; exact hC1) (by rw [List.length_append, List.length_singleton]; exact hc1) (by rw [List.length_append, List.length_singleton]; omega))
  rw [List.length_append, List.length_singleton] at hof
  have hclip := Aside0.mk (fun W => clipI_calls K ck ks W hck)
  have hall := Lib.hid (fun W (hW : Below w.heap.size w W) => all_calls A c l K ck ks W (Kd.C_below hC hW) hc hlen hwf (Kd.C_below hK hW) hck (by omega))
  replace hrun := Lib.hid hrun
  replace hB2 := Aside0.mk hB2
  clear hC hK hwf hC1 hb1 hK1 hb2
  go_enter Try.func16, Try.ntmps16
  go_wp2_with fail
  refine (hclip.out _).mono ?_; rintro e_ w0 ⟨rfl, rfl⟩
  go_wp2_with ((with_reducible refine gate_dst (N := 18) rfl ?_); go_loud (refine wpList_appendRun rfl (.tmp 15) (.tmp 17) rfl rfl rfl hrun.out ?_))
  refine hof.out.mono ?_; rintro e_ w3 ⟨hE, hb3⟩
  have hB3 := below_step hB2.out hb3
  obtain ⟨w4, hw4⟩ : ∃ w4, w3.alloc (.cells #[.slice none 0 0, .slice none 0 0] 80 (0, 0)) = w4 := ⟨_, rfl⟩
  have hb4 : Below w3.heap.size w3 w4 := by rw [← hw4]; exact below_alloc (Below.refl _ _) _
  have hK4 : w4.heap[w3.heap.size]? = some (.cells #[.slice none 0 0, .slice none 0 0] 80 (0, 0)) := by rw [← hw4]; exact heap_alloc_new _ _
  have hB4 := below_step hB3 hb4
  have hs3 := Lib.hid hB3.size
  clear hof hB2 hrun hclip hb3 hB3 hb4
  rcases hE with ⟨hne, rfl⟩ | ⟨h0, gi, rfl, hF⟩
  · have hans := Lib.hid (show canR l ks i = (false, whyD l (ks ++ [i])) from if_neg hne)
    obtain ⟨q, hq⟩ : ∃ q, whyD l (ks ++ [i]) = q := ⟨_, rfl⟩
    rw [hq] at hne hans
    replace hq := Lib.hid hq
    have hne1 : (q == 0) = false := beq_eq_false_iff_ne.2 hne
    have hne2 : (q != 0) = true := bne_iff_ne.2 hne
    rw [hq.out]
    go_wp2_with ((with_reducible refine gate_store (t := 80) (p := 8) rfl ?_); go_loud (refine wpList_storeBox rfl rfl 80 (.tmp 8) (.tmp 20) rfl (fv none 0 0 none 0 0) [.slice none 0 0, .slice none 0 0] rfl rfl rfl (by kernel_rfl) (by simp [Value.oneCell']) hK4 rfl ?_); intro w5 hK5 hg5 hs5)
    have hB5 := Aside0.mk (hB4.grown hg5 hB4.size (fun k hk => by injection hk with hk; have := hs3.out; omega))
    clear hg5 hs5 hK5 hK4 hB4
    go_wp2
    go_ret2
    exact ⟨by rw [hans.out]; rfl, hB5.out⟩
  · have hans := Lib.hid (show canR l ks i = (hasN (allR l ks).1 i, 0) from if_pos h0)
    clear h0 hF
    go_wp2_with ((with_reducible refine gate_store (t := 80) (p := 8) rfl ?_); go_loud (refine wpList_storeBox rfl rfl 80 (.tmp 8) (.tmp 20) rfl (fv A l.length c (some ⟨gi, 0, none⟩) l.length l.length) [.slice A l.length c, .slice (some ⟨gi, 0, none⟩) l.length l.length] rfl rfl rfl (by kernel_rfl) (by simp [Value.oneCell']) hK4 rfl ?_); intro w5 hK5 hg5 hs5)
    have hB5 := hB4.grown hg5 hB4.size (fun k hk => by injection hk with hk; have := hs3.out; omega)
    replace hall := Aside0.mk (hall.out w5 hB5)
    replace hB5 := Aside0.mk hB5
    clear hg5 hs5 hK5 hK4 hB4
    go_wp2_with fail
    refine hall.out.mono ?_; rintro e_ w6 ⟨⟨v, rfl, hR⟩, hb6⟩
    obtain ⟨D, n, rfl, hn, hD⟩ := Kd.R_reads hR
    have hcon := Aside0.mk (contains_calls D n (allR l ks).1 i w6 hD hn (by have := allR_len l ks; omega))
    have hB6 := Aside0.mk (below_step hB5.out hb6)
    obtain ⟨p, hp⟩ : ∃ p, allR l ks = p := ⟨_, rfl⟩
    rw [hp] at hcon hans hn
    rw [hp]
    replace hp := Lib.hid hp
    clear hD hb6 hall hn hR
    go_wp2_with fail
    refine hcon.out.mono ?_; rintro e_ w7 ⟨rfl, hb7⟩
    have hB7 := Aside0.mk (below_step hB6.out hb7)
    clear hb7 hcon
    go_wp2
    go_ret2
    exact ⟨by rw [hans.out]; rfl, hB7.out⟩

/-! ### HExt -/
def wfB (t : S28) : Bool := (Lit.int .i64 t.f0).wf && ((Lit.int .u64 t.f1).wf && ((Lit.int .i64 t.f2).wf && (Lit.int .i64 t.f3).wf))
theorem wfB_iff {t : S28} : wfB t = true ↔ wfT t := by simp [wfB, wfT]
def okD (l : List S28) (ks : List Int) : Bool := decide (l.length ≤ 1000000) && (decide (ks.length ≤ 900000) && l.all wfB)
theorem okD_iff {l : List S28} {ks : List Int} : okD l ks = true ↔ l.length ≤ 1000000 ∧ ks.length ≤ 900000 ∧ ∀ t ∈ l, wfT t := by
  unfold okD
  rw [Bool.and_eq_true, Bool.and_eq_true, decide_eq_true_iff, decide_eq_true_iff, List.all_eq_true]
  simp only [wfB_iff]
def deduce_Step.f (l0 : List S28) (l1 : List Int) : Option (List Int × Int) := if okD l0 l1 = true then some (stepR l0 l1) else none
def deduce_All.f (l0 : List S28) (l1 : List Int) : Option (List Int × Int) := if okD l0 l1 = true then some (allR l0 l1) else none
def deduce_Can.f (l0 : List S28) (l1 : List Int) (a2 : Int) : Option (Bool × Int) := if okD l0 l1 = true then some (canR l0 l1 a2) else none
theorem deduce_Step.calls (A0 : Option Addr) (c0 : Nat) (l0 : List S28) (A1 : Option Addr) (c1 : Nat) (l1 : List Int) (r0 : List Int) (r1 : Int) (w : World) (hr0 : Kd.C k28 w A0 l0.length l0) (hc0 : l0.length ≤ c0) (hr1 : Kd.C (Kd.int .i64) w A1 l1.length l1) (hc1 : l1.length ≤ c1) (h : deduce_Step.f l0 l1 = some (r0, r1)) :
    Calls Try.prog 20 #[.slice A0 l0.length c0, .slice A1 l1.length c1] w fun e w' => ∃ v, e = .returned (.tuple #[v, .int .i64 r1]) ∧ Kd.R (Kd.int .i64) 3 w' w.heap.size (fun _ => True) v r0 ∧ Below w.heap.size w w' := by
  unfold deduce_Step.f at h
  split at h
  case isFalse => cases h
  case isTrue hok =>
    obtain ⟨h1, h2, h3⟩ := okD_iff.1 hok
    injection h with h
    have := step_calls A0 c0 l0 A1 c1 l1 w hr0 hc0 h1 h3 hr1 hc1 (by omega)
    rw [h] at this
    exact this.mono fun e w' ⟨⟨v, e1, e2⟩, hb⟩ => ⟨v, e1, e2, hb⟩
theorem deduce_All.calls (A0 : Option Addr) (c0 : Nat) (l0 : List S28) (A1 : Option Addr) (c1 : Nat) (l1 : List Int) (r0 : List Int) (r1 : Int) (w : World) (hr0 : Kd.C k28 w A0 l0.length l0) (hc0 : l0.length ≤ c0) (hr1 : Kd.C (Kd.int .i64) w A1 l1.length l1) (hc1 : l1.length ≤ c1) (h : deduce_All.f l0 l1 = some (r0, r1)) :
    Calls Try.prog 18 #[.slice A0 l0.length c0, .slice A1 l1.length c1] w fun e w' => ∃ v, e = .returned (.tuple #[v, .int .i64 r1]) ∧ Kd.R (Kd.int .i64) 3 w' w.heap.size (fun _ => True) v r0 ∧ Below w.heap.size w w' := by
  unfold deduce_All.f at h
  split at h
  case isFalse => cases h
  case isTrue hok =>
    obtain ⟨h1, h2, h3⟩ := okD_iff.1 hok
    injection h with h
    have := all_calls A0 c0 l0 A1 c1 l1 w hr0 hc0 h1 h3 hr1 hc1 (by omega)
    rw [h] at this
    exact this.mono fun e w' ⟨⟨v, e1, e2⟩, hb⟩ => ⟨v, e1, e2, hb⟩
theorem deduce_Can.calls (A0 : Option Addr) (c0 : Nat) (l0 : List S28) (A1 : Option Addr) (c1 : Nat) (l1 : List Int) (a2 : Int) (r0 : Bool) (r1 : Int) (w : World) (hr0 : Kd.C k28 w A0 l0.length l0) (hc0 : l0.length ≤ c0) (hr1 : Kd.C (Kd.int .i64) w A1 l1.length l1) (hc1 : l1.length ≤ c1) (h : deduce_Can.f l0 l1 a2 = some (r0, r1)) :
    Calls Try.prog 16 #[.slice A0 l0.length c0, .slice A1 l1.length c1, .int .i64 a2] w fun e w' => e = .returned (.tuple #[.bool r0, .int .i64 r1]) ∧ Below w.heap.size w w' := by
  unfold deduce_Can.f at h
  split at h
  case isFalse => cases h
  case isTrue hok =>
    obtain ⟨h1, h2, h3⟩ := okD_iff.1 hok
    injection h with h
    have := can_calls A0 c0 l0 A1 c1 l1 a2 w hr0 hc0 h1 h3 hr1 hc1 h2
    rw [h] at this
    exact this
end Go.Proofs.Ytenmmeehgnkcpaa.Q
