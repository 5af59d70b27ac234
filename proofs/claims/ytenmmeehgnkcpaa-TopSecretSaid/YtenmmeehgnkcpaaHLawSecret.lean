/- demurraltop's TopSecret: who knows keys enough can tell a first text. -/
import Derived.Test.YtenmmeehgnkcpaaHStep
import Derived.Test.YtenmmeehgnkcpaaHHello
import Derived.Test.YtenmmeehgnkcpaaHMake
import Derived.Test.YtenmmeehgnkcpaaHVal5
import Derived.RangeFuncBox
namespace Go.Proofs.Ytenmmeehgnkcpaa.Q
open Go.RowKit Go.Proofs.YtenmmeehgnkcpaaW.PrintWords Go.Proofs.YtenmmeehgnkcpaaW.PrintLast Go.Proofs.YtenmmeehgnkcpaaW.PrintMore
set_option linter.unusedVariables false
set_option linter.unusedSimpArgs false

/-- What is known: all points, what goes over the wire, and the keys that are. -/
def knownL (bs : Nat → Bool) : Nat → List Int
  | 0 => [4, 5, 6, 7, 15, 16]
  | i + 1 => if bs i = true then knownL bs i ++ [(i : Int)] else knownL bs i
def hasV (bs : Nat → Bool) (i : Nat) : Array Value := #[.bool (decide (0 < i) && bs 0), .bool (decide (1 < i) && bs 1), .bool (decide (2 < i) && bs 2), .bool (decide (3 < i) && bs 3)]
theorem knownL_len (bs : Nat → Bool) : ∀ i, (knownL bs i).length ≤ 6 + i
  | 0 => Nat.le_refl _
  | i + 1 => by
    have := knownL_len bs i
    unfold knownL
    split
    · rw [List.length_append, List.length_singleton]; omega
    · omega
def bitB (k : Int) (n : Nat) : Bool := bits .and .i64 (k / 2 ^ n) 1 == 1
theorem own_CI {W : World} {base n c : Nat} {D : Option Addr} {xs : List Int} (h : W.ownsRow base 3 1 (.slice D n c) n (xs.map (Value.int .i64))) (hn : n = xs.length) : n ≤ c ∧ (Kd.int .i64).C W D n xs := by
  obtain ⟨_, ⟨hv, h0⟩ | ⟨g, cap, cur, hv, _, hg, hc1, hc2, hc3, hc4⟩⟩ := h
  · injection hv with h1 h2 h3
    subst h0
    obtain rfl : xs = [] := List.eq_nil_of_length_eq_zero hn.symm
    exact ⟨Nat.zero_le _, by rw [h1]; exact Kd.C_nil _ _⟩
  · injection hv with h1 h2 h3
    subst h1 h3
    refine ⟨hc1, hn.symm, Nat.le_trans hc1 hc2, fun _ => ⟨_, rfl, fun j p hj => ⟨[.int .i64 p], rfl, rfl, fun i u hu => ?_⟩⟩⟩
    obtain ⟨rfl, rfl⟩ : i = 0 ∧ u = .int .i64 p := by
      rcases i with _ | i
      · exact ⟨rfl, by simpa using hu.symm⟩
      · simp at hu
    have hjn : j < n := by rw [hn]; exact (List.getElem?_eq_some_iff.1 hj).1
    rw [Addr.add_lit, blk_cell hg]
    have h5 := congrArg (fun l => l[j]?) hc4
    simp only [List.getElem?_take, List.getElem?_map, hj] at h5
    rw [if_pos (by omega)] at h5
    show cur[0 + (j * 1 + 0)]? = _
    rw [show 0 + (j * 1 + 0) = j by omega, ← Array.getElem?_toList]
    exact h5
theorem row_ne {W : World} {base e size n g t : Nat} {v : Value} {xs : List Value} {cur : Array Value} (h : W.ownsRow base e size v n xs) (hg : W.heap[g]? = some (.cells cur t (0, 0))) (hne : t ≠ e) : some g ≠ v.ownBlock := by
  rcases h.2 with ⟨rfl, _⟩ | ⟨b, cap, cu, rfl, _, hb, _⟩
  · simp [Value.ownBlock]
  · intro h
    obtain rfl : g = b := by simpa [Value.ownBlock] using h
    rw [hg] at hb
    injection hb with hb
    injection hb with _ hb
    exact hne hb
theorem own_base {W : World} {base e size n k : Nat} {v : Value} {xs : List Value} (h : W.ownsRow base e size v n xs) (hk : v.ownBlock = some k) : base ≤ k := by
  rcases h.2 with ⟨rfl, _⟩ | ⟨b, cap, cu, rfl, hb, _⟩
  · simp [Value.ownBlock] at hk
  · obtain rfl : b = k := by simpa [Value.ownBlock] using hk
    exact hb
theorem own_below {W W' : World} {base e size n : Nat} {v : Value} {xs : List Value} (h : W.ownsRow base e size v n xs) (hb : Below W.heap.size W W') : W'.ownsRow base e size v n xs :=
  h.kept (below_grown hb) (by cases v.ownBlock <;> simp)
theorem hasV_no (bs : Nat → Bool) (i : Nat) (h : bs i = false) (hi : i < 4) : hasV bs (i + 1) = hasV bs i := by
  have hc : i = 0 ∨ i = 1 ∨ i = 2 ∨ i = 3 := by omega
  rcases hc with rfl | rfl | rfl | rfl <;> simp [hasV, h]
theorem hasV_yes (bs : Nat → Bool) (i : Nat) (h : bs i = true) (hi : i < 4) : ((hasV bs i).toList.take i ++ [Value.bool true] ++ (hasV bs i).toList.drop (i + 1)).toArray = hasV bs (i + 1) := by
  have hc : i = 0 ∨ i = 1 ∨ i = 2 ∨ i = 3 := by omega
  rcases hc with rfl | rfl | rfl | rfl <;> simp [hasV, h]
theorem info_int : (Try.prog.info? 3).map (fun i => (i.zero, i.size, i.bytes)) = some (some (.int .i64 0), 1, 8) := by kernel_rfl
theorem own_append {W : World} {base g : Nat} {v : Value} {xs : List Int} (x : Int) (h : W.ownsRow base 3 1 v xs.length (xs.map (Value.int .i64))) (hb : base ≤ W.heap.size) (hx : xs.length ≤ 1000000) (hg : W.heap[g]? = some (.cells #[.int .i64 x] 3 (0, 0))) :
    ∃ D d W', (Builtin.append_ #[33, 33] 33 #[v, .slice (some ⟨g, 0, none⟩) 1 1]).run Try.prog W = .ok (.slice D (xs ++ [x]).length d) W' ∧ W'.ownsRow base 3 1 (.slice D (xs ++ [x]).length d) (xs ++ [x]).length ((xs ++ [x]).map (Value.int .i64)) ∧ W.grownBy W' v.ownBlock := by
  obtain ⟨i0, hi, hz0, hz1, hz2⟩ := info_parts info_int
  obtain ⟨v', W', hr, ho, hgr, _⟩ := run_append_own (P := Try.prog) W base 33 33 3 i0 (.int .i64 0) 1 8 Try.underlying33 hi hz0 hz1 hz2 rfl (by decide) v xs.length _ h ⟨g, 0, none⟩ 1 1 [.int .i64 x] rfl
    (fun j u hu => by
      obtain ⟨rfl, rfl⟩ : j = 0 ∧ u = .int .i64 x := by
        rcases j with _ | j
        · exact ⟨rfl, by simpa using hu.symm⟩
        · simp at hu
      exact box1 hg) (by simp [Value.oneCell']) (by simp only [maxLen]; omega) (by omega) hb
  have hlen : (xs ++ [x]).length = xs.length + 1 := by simp
  obtain ⟨g', cap', rfl⟩ := ownsRow_succ ho
  rw [hlen]
  refine ⟨_, _, W', hr, ?_, hgr⟩
  rw [List.map_append]
  exact ho
theorem hello_take (f : Int) : (helloT f).take 17 = helloT f := rfl
def known4 (b0 b1 b2 b3 : Bool) : List Int := [4, 5, 6, 7, 15, 16] ++ (if b0 then [0] else []) ++ (if b1 then [1] else []) ++ (if b2 then [2] else []) ++ (if b3 then [3] else [])
theorem knownL_four (bs : Nat → Bool) : knownL bs 4 = known4 (bs 0) (bs 1) (bs 2) (bs 3) := by
  simp only [knownL, known4]
  cases bs 0 <;> cases bs 1 <;> cases bs 2 <;> cases bs 3 <;> rfl
set_option maxRecDepth 100000 in
theorem secret_can (f : Int) (bs : Nat → Bool) (i : Int) (hi : i = 13 ∨ i = 14) : canR (helloT f) (knownL bs 4) i = (((bs 0 || bs 3) && (bs 1 || bs 2) && (bs 1 || bs 3)), 0) := by
  have hr := hello_right f 17 (Nat.le_refl _)
  rw [hello_take] at hr
  have key : ∀ (ks : List Int) (b : Bool), (ks ++ [i]).all (inL (helloT f).length) = true → ks.all (inL (helloT f).length) = true → hasN (placesL (allB (helloT f) (ofL (helloT f).length ks))) i = b → canR (helloT f) ks i = (b, 0) := fun ks b h1 h2 h3 => by
    unfold canR
    rw [if_pos (why_in hr h1), allR_eq (why_in hr h2), h3]
  rw [knownL_four]
  generalize bs 0 = b0
  generalize bs 1 = b1
  generalize bs 2 = b2
  generalize bs 3 = b3
  rcases hi with rfl | rfl <;> cases b0 <;> cases b1 <;> cases b2 <;> cases b3 <;> exact key _ _ (by kernel_rfl) (by kernel_rfl) (by kernel_rfl)
set_option maxHeartbeats 4000000 in
set_option maxRecDepth 100000 in
theorem secret_walk (a0 a1 : Int) (w : World) (g0 : (Lit.int .u64 a0).wf = true) (g1 : (Lit.int .i64 a1).wf = true) :
    Calls Try.prog 4 #[.int .u64 a0, .int .i64 a1] w fun e w' => e = .returned (.bool true) ∧ Below w.heap.size w w' := by
  have ha0 : 0 ≤ a0 := by simp [Lit.wf] at g0; have e1 : IntKind.u64.min = 0 := rfl; omega
  obtain ⟨f, hf⟩ : ∃ f, Int.tmod a0 1152921504606846976 = f := ⟨_, rfl⟩
  have hf0 : 0 ≤ f := by rw [← hf]; exact Int.tmod_nonneg _ ha0
  have hf1 : f < 1152921504606846976 := by rw [← hf]; exact Int.tmod_lt_of_pos _ (by decide)
  have hhello := Aside0.mk (hello_calls f hf0 hf1 w)
  go_enter Try.func4, Try.ntmps4
  go_wp2_with fail
  refine hhello.out.mono ?_; rintro e_ w1 ⟨⟨A, c, rfl, hc, hC⟩, hb1⟩
  replace hC := Aside0.mk hC
  replace hb1 := Aside0.mk hb1
  clear hhello
  obtain ⟨w2, hw2⟩ : ∃ w2, w1.alloc (.cells #[.int .i64 4, .int .i64 5, .int .i64 6, .int .i64 7, .int .i64 15, .int .i64 16] 3 (0, 0)) = w2 := ⟨_, rfl⟩
  have hK2 : w2.heap[w1.heap.size]? = some (.cells #[.int .i64 4, .int .i64 5, .int .i64 6, .int .i64 7, .int .i64 15, .int .i64 16] 3 (0, 0)) := by rw [← hw2]; exact heap_alloc_new _ _
  have hb2 : Below w1.heap.size w1 w2 := by rw [← hw2]; exact below_alloc (Below.refl _ _) _
  obtain ⟨w3, hw3⟩ : ∃ w3, w2.alloc (.cells #[.bool false, .bool false, .bool false, .bool false] 37 (0, 0)) = w3 := ⟨_, rfl⟩
  have hK3 : w3.heap[w2.heap.size]? = some (.cells #[.bool false, .bool false, .bool false, .bool false] 37 (0, 0)) := by rw [← hw3]; exact heap_alloc_new _ _
  have hb3 : Below w2.heap.size w2 w3 := by rw [← hw3]; exact below_alloc (Below.refl _ _) _
  go_wp2_with fail
  go_loopw [22, 7] (fun v k wr => ∃ i : Nat, i ≤ 4 ∧ v = .int .i64 (i : Int) ∧ (∃ D d, k = .slice D (knownL (bitB a1) i).length d) ∧ wr.ownsRow w1.heap.size 3 1 k (knownL (bitB a1) i).length ((knownL (bitB a1) i).map (Value.int .i64)) ∧ wr.heap[w2.heap.size]? = some (.cells (hasV (bitB a1) i) 37 (0, 0)) ∧ Below w1.heap.size w1 wr) (fun v _ _ => 4 - (intOf v).toNat)
  case atStart =>
    refine ⟨0, by omega, rfl, ⟨_, _, rfl⟩, ⟨rfl, .inr ⟨w1.heap.size, 6, _, rfl, Nat.le_refl _, (hb3.block _ (blk_lt hK2)).trans hK2, Nat.le_refl _, by decide, rfl, rfl⟩⟩, hK3, hb2.trans (hb3.mono hb2.size)⟩
  case round =>
    clear hK2 hK3 hb3
    obtain ⟨i, hi, rfl, ⟨D, d, rfl⟩, hown, hH, hB⟩ := hrel
    have hkl := knownL_len (bitB a1) i
    by_cases hlt : (i : Int) < 4
    · cases hbit : bitB a1 i with
      | false =>
        have hbit2 : (bits .and .i64 (a1 / 2 ^ i) 1 == 1) = false := hbit
        have hkn : knownL (bitB a1) (i + 1) = knownL (bitB a1) i := by unfold knownL; rw [hbit, if_neg (by decide)]; cases i <;> rfl
        replace hown := Aside0.mk hown
        replace hH := Aside0.mk hH
        replace hB := Aside0.mk hB
        go_wp2_with fail
        refine ⟨⟨i + 1, by omega, by go_num, ?_, ?_, ?_, hB.out⟩, ?_⟩
        · rw [hkn]; exact ⟨_, _, rfl⟩
        · rw [hkn]; exact hown.out
        · rw [hasV_no _ _ hbit (by omega)]; exact hH.out
        · simp [intOf]; omega
      | true =>
        have hbit2 : (bits .and .i64 (a1 / 2 ^ i) 1 == 1) = true := hbit
        have hkn : knownL (bitB a1) (i + 1) = knownL (bitB a1) i ++ [(i : Int)] := by
          show (if bitB a1 i = true then _ else _) = _
          rw [hbit, if_pos rfl]
        have hle : w1.heap.size ≤ wr.heap.size := hB.size
        have hle2 : w1.heap.size ≤ w2.heap.size := hb2.size
        have happ : Hid (∀ (W : World), Below wr.heap.size wr W → ∀ {g : Nat}, W.heap[g]? = some (.cells #[.int .i64 (i : Int)] 3 (0, 0)) → ∃ D5 d5 W5, (Builtin.append_ #[33, 33] 33 #[.slice D (knownL (bitB a1) i).length d, .slice (some ⟨g, 0, none⟩) 1 1]).run Try.prog W = .ok (.slice D5 (knownL (bitB a1) i ++ [(i : Int)]).length d5) W5 ∧ W5.ownsRow w1.heap.size 3 1 (.slice D5 (knownL (bitB a1) i ++ [(i : Int)]).length d5) (knownL (bitB a1) i ++ [(i : Int)]).length ((knownL (bitB a1) i ++ [(i : Int)]).map (Value.int .i64)) ∧ W.grownBy W5 (Value.slice D (knownL (bitB a1) i).length d).ownBlock) :=
          Lib.hid fun W hW g hg => own_append (i : Int) (own_below hown hW) (Nat.le_trans hle hW.size) (by omega) hg
        have hkeep : Hid (∀ (W : World), Below wr.heap.size wr W → ∀ W5, W.grownBy W5 (Value.slice D (knownL (bitB a1) i).length d).ownBlock → W5.heap[w2.heap.size]? = some (.cells (hasV (bitB a1) i) 37 (0, 0))) :=
          Lib.hid fun W hW W5 hg => (hg.block _ (Nat.lt_of_lt_of_le (blk_lt hH) hW.size) (row_ne hown hH (by decide))).trans ((hW.block _ (blk_lt hH)).trans hH)
        have hob := Lib.hid (fun k hk => own_base (k := k) hown hk)
        replace hB := Aside0.mk hB
        clear hown hH
        go_wp2_with fail
        refine start_ (n := 8) (S := fun w' => True) (ds := [6]) #[false, false, false, false, false, false, false, false] (by kernel_rfl) rfl rfl trivial (fun hHeld => ?_)
        refine p_ 0 (some 30) #[true, false, false, false, false, false, false, false] ?_
        refine p_ 1 (some 31) #[true, true, false, false, false, false, false, false] ?_
        refine p_ 2 (some 32) #[true, true, true, false, false, false, false, false] ?_
        refine p_ 5 (some 35) #[true, true, true, false, false, true, false, false] ?_
        refine one_ (i := 3) (N := some 33) #[true, true, true, true, false, true, false, false] rfl rfl (by kernel_rfl) (by decide) (fun K hK => ?_)
        refine value_ (w1 := ?_) (v := ?_) (by rfl) rfl ?_ ?_
        rotate_left 2
        · go_simp
          constructor
          · rfl
          · rfl
        have hg4 := heap_alloc_new wr.drew (.cells #[.int .i64 (i : Int)] 3 (0, 0))
        have hb4 := below_alloc (below_drew (Below.refl wr.heap.size wr)) (.cells #[.int .i64 (i : Int)] 3 (0, 0))
        refine hK.out _ _ trivial (fun hHeld => ?_)
        clear hK K
        refine norm_ (a' := ?_) ?_ ?_
        rotate_left
        · show Act.put _ (some 33) _ = _
          simp only [Act.put, List.setIfInBounds_toArray, List.set_cons_zero, List.set_cons_succ, i64_w, i32_w]
          rfl
        refine one_ (i := 4) (N := some 34) #[true, true, true, true, true, true, false, false] rfl rfl (by kernel_rfl) (by decide) (fun K hK => ?_)
        obtain ⟨D5, d5, w5, hrun, hown5, hgr5⟩ := happ.out _ hb4 hg4
        refine clip_step (by rfl) (.tmp 31) (.tmp 33) rfl (by rfl) (by rfl) hrun ?_
        clear hrun
        refine hK.out _ _ trivial (fun hHeld => ?_)
        clear hK K
        refine norm_ (a' := ?_) ?_ ?_
        rotate_left
        · show Act.put _ (some 34) _ = _
          simp only [Act.put, List.setIfInBounds_toArray, List.set_cons_zero, List.set_cons_succ, i64_w, i32_w]
          rfl
        refine last_ (i := 6) (N := none) #[true, true, true, true, true, true, true, false] rfl rfl (by kernel_rfl) (by decide) (fun K hK => ?_)
        have hH5 := hkeep.out _ hb4 _ hgr5
        refine skip_storeAt (by rfl) rfl 4 (.tmp 35) (.const (.bool true)) rfl i (.bool true) rfl rfl rfl (by kernel_rfl) rfl hH5 (by simp [hasV]; omega) ?_
        intro w6 hK6 hg6 hs6
        refine hK.out _ _ ?_
        clear hK K
        refine p_ 7 (some 7) #[true, true, true, true, true, true, true, true] ?_
        refine done_ (by kernel_rfl) ?_
        have hown6 := Aside0.mk (hown5.kept hg6 (.inr (row_ne hown5 hH5 (by decide)).symm))
        have hB6 := Aside0.mk (((hB.out.trans (hb4.mono hle)).grown hgr5 (Nat.le_trans hle hb4.size) hob.out).grown hg6 (Nat.le_trans (Nat.le_trans hle hb4.size) hgr5.size) (fun k hk => by injection hk with hk; omega))
        replace hK6 := Aside0.mk hK6
        clear hown5 hH5 hg6 hs6 hgr5 hb4 hg4 happ hkeep hob
        go_wp2_with fail
        refine ⟨⟨i + 1, by omega, by go_num, ?_, ?_, ?_, hB6.out⟩, ?_⟩
        · rw [hkn]; exact ⟨D5, d5, by rw [List.length_append, List.length_singleton]⟩
        · rw [hkn]; have := hown6.out; rw [List.length_append, List.length_singleton] at this ⊢; exact this
        · rw [← hasV_yes _ _ hbit (by omega)]; exact hK6.out
        · simp [intOf]; omega
    · obtain rfl : i = 4 := by omega
      obtain ⟨hdl, hCK⟩ := own_CI hown rfl
      have hH' : wr.heap[w2.heap.size]? = some (.cells #[.bool (bitB a1 0), .bool (bitB a1 1), .bool (bitB a1 2), .bool (bitB a1 3)] 37 (0, 0)) := by simpa [hasV] using hH
      clear hH
      have hwf : ∀ t ∈ helloT f, wfT t := hello_wf f hf0 hf1 17
      have hcan : ∀ (j : Int) (W : World), j = 13 ∨ j = 14 → Below wr.heap.size wr W → Calls Try.prog 16 #[.slice A 17 c, .slice D (knownL (bitB a1) 4).length d, .int .i64 j] W fun e w' => e = .returned (.tuple #[.bool ((bitB a1 0 || bitB a1 3) && (bitB a1 1 || bitB a1 2) && (bitB a1 1 || bitB a1 3)), .int .i64 0]) ∧ Below W.heap.size W w' := fun j W hj hW => by
        have := can_calls A c (helloT f) D d (knownL (bitB a1) 4) j W (Kd.C_below (Kd.C_below hC.out hB) hW) hc (Nat.le_of_ble_eq_true rfl) hwf (Kd.C_below hCK hW) hdl (by omega)
        rw [secret_can f _ j hj] at this
        exact this
      generalize knownL (bitB a1) 4 = ks at hcan hown ⊢
      generalize bitB a1 0 = b0 at hcan hH' ⊢
      generalize bitB a1 1 = b1 at hcan hH' ⊢
      generalize bitB a1 2 = b2 at hcan hH' ⊢
      generalize bitB a1 3 = b3 at hcan hH' ⊢
      have hc14 := Aside0.mk (hcan 14 wr (.inr rfl) (Below.refl _ _))
      have hB1 := Aside0.mk (hb1.out.trans (hB.mono hb1.out.size))
      replace hcan := Lib.hid hcan
      clear hown hCK hC hkl hdl
      go_wp2_with fail
      refine hc14.out.mono ?_; rintro e_ w4 ⟨rfl, hb4⟩
      have hc13 := Aside0.mk (hcan.out 13 w4 (.inl rfl) hb4)
      have hH4 := Aside0.mk ((hb4.block _ (blk_lt hH')).trans hH')
      have hB4 := Aside0.mk (below_step hB1.out hb4)
      clear hc14 hb4 hH' hcan hB1 hB
      go_wp2_with fail
      refine hc13.out.mono ?_; rintro e_ w5 ⟨rfl, hb5⟩
      have hH5 := (hb5.block _ (blk_lt hH4.out)).trans hH4.out
      have hB5 := Aside0.mk (below_step hB4.out hb5)
      obtain ⟨z0, z1, z2, z3⟩ := box4 hH5
      have hal := Aside0.mk (topalive_calls w5)
      clear hc13 hb5 hH4 hH5 hB4
      cases b0 <;> cases b1 <;> cases b2 <;> cases b3
      all_goals
        go_wp2_with fail
        refine hal.out.mono ?_; rintro e_ w6 ⟨rfl, hb6⟩
        have hB6 := Aside0.mk (below_step hB5.out hb6)
        clear hal hb6 hB5
        go_wp2
        go_ret
        exact ⟨rfl, hB6.out⟩
end Go.Proofs.Ytenmmeehgnkcpaa.Q
