/- The document's layers 20 and 22 in calls: Made, At, Right, Turned; put, add.
   Conditions: the lists are of no more than a million. -/
import Derived.RangeFuncBox
import Derived.Test.YtenmmeehgnkcpaaHAdd
import Derived.Test.YtenmmeehgnkcpaaHStat
import Derived.Test.YtenmmeehgnkcpaaQx127
import Derived.Test.YtenmmeehgnkcpaaQx137
import Derived.Test.YtenmmeehgnkcpaaQx153
import Derived.Test.YtenmmeehgnkcpaaQx171
import Derived.Test.YtenmmeehgnkcpaaQx183
namespace Go.Proofs.Ytenmmeehgnkcpaa.Q
open Go.RowKit Go.Proofs.YtenmmeehgnkcpaaW.PrintWords Go.Proofs.YtenmmeehgnkcpaaW.PrintLast Go.Proofs.YtenmmeehgnkcpaaW.PrintMore
set_option linter.unusedVariables false
set_option linter.unusedSimpArgs false


theorem one_f (k : Int) : demurralref20_One.f k = some (unaryB k) := by
  unfold demurralref20_One.f unaryB
  by_cases h : k = 1
  · rw [if_pos h, beq_iff_eq.2 h]; rfl
  · rw [if_neg h, beq_eq_false_iff_ne.2 h]; rfl
theorem made_j0 (k : Nat) (n : Int) (t : S28) : demurralref20_Made.j0 (k + 2) n (decide (t.f0 < 0) || (decide (t.f0 > 6) || ((t.f1 != 0) && ((t.f0 != 0) && (t.f0 != 3))))) t.f0 t.f1 t.f2 t.f3 = some (madeB n t) := by
  obtain ⟨a, b, c, d⟩ := t
  simp only
  unfold demurralref20_Made.j0 demurralref20_Made.j1
  simp only [one_f, Option.bind_some]
  unfold madeB inB
  simp only
  have hu : unaryB a = decide (a = 1 ∨ a = 3) := by
    unfold unaryB
    rw [Bool.eq_iff_iff]
    simp
  have hb : binaryB a = decide (a = 2 ∨ (4 ≤ a ∧ a ≤ 6)) := by
    unfold binaryB
    rw [Bool.eq_iff_iff]
    simp
  rw [hu, hb]
  by_cases h1 : a < 0
  · rw [decide_eq_true h1, Bool.true_or, if_pos rfl]
    rw [if_neg (show ¬ (a == 0) = true by simp; omega), decide_eq_false (show ¬ (a = 1 ∨ a = 3) by omega), decide_eq_false (show ¬ (a = 2 ∨ (4 ≤ a ∧ a ≤ 6)) by omega)]
    simp
  · by_cases h2 : a > 6
    · rw [decide_eq_false h1, decide_eq_true h2, Bool.false_or, Bool.true_or, if_pos rfl]
      rw [if_neg (show ¬ (a == 0) = true by simp; omega), decide_eq_false (show ¬ (a = 1 ∨ a = 3) by omega), decide_eq_false (show ¬ (a = 2 ∨ (4 ≤ a ∧ a ≤ 6)) by omega)]
      simp
    · rw [decide_eq_false h1, decide_eq_false h2, Bool.false_or, Bool.false_or]
      by_cases h3 : ((b != 0) && ((a != 0) && (a != 3))) = true
      · rw [if_pos h3, if_pos h3]
      · rw [if_neg h3, if_neg h3]
        by_cases h0 : a = 0
        · subst h0
          simp
          by_cases hc : c = 0 <;> simp [hc]
        · rw [if_neg h0, if_neg (show ¬ (a == 0) = true by simpa using h0)]
          by_cases hc : c < 0
          · rw [if_pos hc, if_pos trivial, decide_eq_false (show ¬ 0 ≤ c by omega)]
            simp
          · rw [if_neg hc, decide_eq_true (show 0 ≤ c by omega)]
            by_cases hcn : c ≥ n
            · rw [if_pos (decide_eq_true hcn), decide_eq_false (show ¬ c < n by omega)]
              simp
            · rw [if_neg (by simpa using hcn), decide_eq_true (show c < n by omega)]
              by_cases hu1 : (a = 1 ∨ a = 3)
              · simp [hu1]
              · rw [decide_eq_false hu1, decide_eq_true (show (a = 2 ∨ (4 ≤ a ∧ a ≤ 6)) by omega)]
                simp only [Bool.true_and, if_neg (show ¬ false = true by decide)]
                by_cases hd0 : d ≥ 0
                · rw [if_pos hd0, decide_eq_true (show 0 ≤ d from hd0)]
                  by_cases hdn : d < n
                  · rw [if_pos hdn, decide_eq_true hdn]
                    by_cases ha2 : a = 2
                    · simp [ha2]
                    · simp [ha2]
                  · rw [if_neg hdn, decide_eq_false hdn]
                    simp
                · rw [if_neg hd0, decide_eq_false (show ¬ 0 ≤ d from hd0)]
                  simp
theorem made_f (k : Nat) (n : Int) (t : S28) : demurralref20_Made.f (k + 2) n t.f0 t.f1 t.f2 t.f3 = some (madeB n t) := by
  rw [← made_j0 k n t]
  unfold demurralref20_Made.f
  by_cases h1 : t.f0 < 0
  · rw [if_pos h1, decide_eq_true h1, Bool.true_or]
  · rw [if_neg h1, decide_eq_false h1, Bool.false_or]
    by_cases h2 : t.f0 > 6
    · rw [if_pos h2, decide_eq_true h2, Bool.true_or]
    · rw [if_neg h2, decide_eq_false h2, Bool.false_or]
      by_cases h3 : t.f1 = 0
      · rw [if_pos h3]
        rw [show ((t.f1 != 0) && ((t.f0 != 0) && (t.f0 != 3))) = false from by rw [h3]; rfl]
      · rw [if_neg h3]
        by_cases h4 : t.f0 = 0
        · rw [if_pos h4]
          rw [show ((t.f1 != 0) && ((t.f0 != 0) && (t.f0 != 3))) = false from by rw [h4]; cases (t.f1 != 0) <;> rfl]
        · rw [if_neg h4]
          rw [show ((t.f1 != 0) && ((t.f0 != 0) && (t.f0 != 3))) = (t.f0 != 3) from by rw [bne_iff_ne.2 h3, bne_iff_ne.2 h4]; rfl]
theorem at_l0 (l : List S28) (hl : l.length ≤ 1000000) (t : S28) : ∀ (m k i : Nat), i + m = l.length → m < k →
    demurralref20_At.l0 k l (l.length : Int) (i : Int) t.f0 t.f1 t.f2 t.f3 = some (if (l.drop i).findIdx (fun x => eqT x t) < (l.drop i).length then ((i + (l.drop i).findIdx (fun x => eqT x t) : Nat) : Int) else -1) := by
  intro m
  induction m with
  | zero =>
    intro k i hi hk
    obtain ⟨k, rfl⟩ : ∃ k', k = k' + 1 := ⟨k - 1, by omega⟩
    rw [demurralref20_At.l0, if_neg (by omega), List.drop_eq_nil_of_le (by omega)]
    rfl
  | succ m ih =>
    intro k i hi hk
    obtain ⟨k, rfl⟩ : ∃ k', k = k' + 1 := ⟨k - 1, by omega⟩
    rw [demurralref20_At.l0, if_pos (by omega), if_pos (by omega), if_pos (by omega), nx i (by omega), drop_rd28 l i (by omega), List.findIdx_cons, ih k (i + 1) (by omega) (by omega)]
    have hd : (((rd_T28 l (i : Int)).f0 == t.f0) && (((rd_T28 l (i : Int)).f1 == t.f1) && (((rd_T28 l (i : Int)).f2 == t.f2) && ((rd_T28 l (i : Int)).f3 == t.f3)))) = eqT (rd_T28 l (i : Int)) t := rfl
    rw [hd]
    cases e : eqT (rd_T28 l (i : Int)) t with
    | true => simp
    | false =>
      rw [if_neg (by decide), List.length_cons]
      simp only [cond_false]
      by_cases h : (l.drop (i + 1)).findIdx (fun x => eqT x t) < (l.drop (i + 1)).length
      · rw [if_pos h, if_pos (by omega)]
        congr 1
        omega
      · rw [if_neg h, if_neg (by omega)]
def atN (l : List S28) (t : S28) : Nat := l.findIdx fun x => eqT x t
def atI (l : List S28) (t : S28) : Int := if atN l t < l.length then (atN l t : Int) else -1
theorem at_f (l : List S28) (hl : l.length ≤ 1000000) (t : S28) (k : Nat) (hk : l.length < k) : demurralref20_At.f k l t.f0 t.f1 t.f2 t.f3 = some (atI l t) := by
  unfold demurralref20_At.f atI atN
  rw [show (0 : Int) = ((0 : Nat) : Int) from rfl, at_l0 l hl t l.length k 0 (by omega) hk]
  simp
theorem atI_has (l : List S28) (t : S28) : decide (atI l t ≥ 0) = hasT l t := by
  unfold atI atN hasT
  rw [Bool.eq_iff_iff, decide_eq_true_iff, List.any_eq_true]
  constructor
  · intro h
    split at h
    · rename_i hlt
      exact ⟨_, List.getElem_mem hlt, List.findIdx_getElem (w := hlt)⟩
    · omega
  · rintro ⟨x, hx, he⟩
    rw [if_pos (List.findIdx_lt_length_of_exists ⟨x, hx, he⟩)]
    omega
theorem right_l0 (l : List S28) (hl : l.length ≤ 1000000) : ∀ (m k i : Nat), i + m = l.length → l.length + 2 + m < k →
    demurralref20_Right.l0 k l l (l.length : Int) (i : Int) = some (((List.range' i m).all fun j => okT l j) && decide (l.length ≤ 400)) := by
  intro m
  induction m with
  | zero =>
    intro k i hi hk
    obtain ⟨k, rfl⟩ : ∃ k', k = k' + 1 := ⟨k - 1, by omega⟩
    rw [demurralref20_Right.l0, if_neg (by omega)]
    simp only [List.range'_zero, List.all_nil, Bool.true_and]
    congr 1
    rw [Bool.eq_iff_iff, decide_eq_true_iff, decide_eq_true_iff]
    omega
  | succ m ih =>
    intro k i hi hk
    obtain ⟨k, rfl⟩ : ∃ k', k = k' + 3 := ⟨k - 3, by omega⟩
    rw [demurralref20_Right.l0, if_pos (by omega), if_pos (by omega), if_pos (by omega), made_f k (i : Int) (rd_T28 l (i : Int)), Option.bind_some, List.range'_succ, List.all_cons, nx i (by omega), if_pos (show (i : Int) ≤ (l.length : Int) by omega), Int.toNat_natCast,
      at_f (l.take i) (by rw [List.length_take]; omega) (rd_T28 l (i : Int)) (k + 2) (by rw [List.length_take]; omega), Option.bind_some, ih (k + 2) (i + 1) (by omega) (by omega)]
    have ho : okT l i = (madeB (i : Int) (rd_T28 l (i : Int)) && !hasT (l.take i) (rd_T28 l (i : Int))) := rfl
    rw [ho, ← atI_has]
    cases madeB (i : Int) (rd_T28 l (i : Int)) with
    | false => simp
    | true =>
      rw [if_pos rfl]
      by_cases h : atI (l.take i) (rd_T28 l (i : Int)) ≥ 0
      · rw [if_pos h, decide_eq_true h]
        simp
      · rw [if_neg h, decide_eq_false h]
        simp
theorem right_f (l : List S28) (hl : l.length ≤ 1000000) (k : Nat) (hk : 2 * l.length + 2 < k) : demurralref20_Right.f k l = some (rightB l) := by
  unfold demurralref20_Right.f rightB rowT
  rw [show (0 : Int) = ((0 : Nat) : Int) from rfl, right_l0 l hl l.length k 0 (by omega) (by omega), List.range_eq_range']
theorem atI_idx (l : List S28) (t : S28) : atI l t = idxT l t := by
  have h : atN l t = idxN l t := by
    unfold atN idxN
    congr 1
    funext x
    rw [Bool.eq_iff_iff, eqT_iff, eqT_iff]
    exact eq_comm
  unfold atI idxT
  rw [h]
theorem turned_f (t : S28) : demurralref20_Turned.f t.f0 t.f1 t.f2 t.f3 = some ((turnT t).f0, (turnT t).f1, (turnT t).f2, (turnT t).f3) := by
  unfold demurralref20_Turned.f turnT
  by_cases h : t.f0 = 2
  · rw [if_pos h]
    by_cases h2 : t.f3 < t.f2
    · rw [if_pos h2, if_pos ⟨h, h2⟩, h]
    · rw [if_neg (by omega), if_neg (fun h => h2 h.2), h]
  · rw [if_neg h, if_neg (fun h' => h h'.1)]

/-- The row lies in a block of numbers of its own. -/
def Row3 (W : World) (B : Option Addr) : Prop := ∀ ad, B = some ad → ∃ cur, W.heap[ad.block]? = some (.cells cur 3 (0, 0))
theorem row3_of_R {W : World} {base n c : Nat} {A : Option Addr} {ok : Nat → Prop} {xs : List Int} (h : Kd.R (Kd.int .i64) 3 W base ok (.slice A n c) xs) : Row3 W A := by
  obtain ⟨_, cells, ⟨_, ⟨hv, _⟩ | ⟨g, cap, cur, hv, _, hg, _⟩⟩, _⟩ := h
  · injection hv with h1 h2 h3
    exact fun ad e => by rw [h1] at e; cases e
  · injection hv with h1 h2 h3
    exact fun ad e => by rw [h1] at e; cases e; exact ⟨cur, hg⟩
/-- A write into a block that holds no such number as a name is leaves a row of terms. -/
theorem C28_name {W W' : World} {A : Option Addr} {n : Nat} {l : List S28} {g t : Nat} {cur : Array Value} (hC : k28.C W A n l) (hg : W.heap[g]? = some (.cells cur t (0, 0))) (hv : ∀ v ∈ cur, ∀ i, v ≠ .int .u64 i) (hb : W.grownBy W' (some g)) : k28.C W' A n l :=
  C28_same hC fun ad e hn => by
    obtain ⟨ad', e', _, q1, _⟩ := at_T28 hC 0 (by omega) (by omega)
    rw [e] at e'
    injection e' with e'
    subst e'
    refine hb.block _ ?_ fun e2 => ?_
    · have := block_lt_of_cell q1
      simpa [add_blk] using this
    · injection e2 with e2
      have h := q1
      unfold World.cell? at h
      have hbk : (ad.add (Int.toNat 0 * 4)).block = ad.block := add_blk _ _
      simp only [hbk, e2, hg] at h
      simp at h
      exact hv _ (Array.mem_of_getElem? h) _ rfl
/-- A list, recipes, and the error, handed back. -/
def RefE (m : List S28) (p : List Int) (q : Int) (e : Ending) (W : World) : Prop := ∃ A c B d, e = .returned (.agg #[.slice A m.length c, .slice B p.length d, .int .i64 q]) ∧ m.length ≤ c ∧ p.length ≤ d ∧ k28.C W A m.length m ∧ (Kd.int .i64).C W B p.length p ∧ Row3 W B
theorem put_calls (A : Option Addr) (c : Nat) (m : List S28) (B : Option Addr) (d : Nat) (p : List Int) (q i : Int) (w : World) (hC : k28.C w A m.length m) (hc : m.length ≤ c) (hP : (Kd.int .i64).C w B p.length p) (hd : p.length ≤ d) (hpl : p.length ≤ 1000000) :
    Calls Try.prog 71 #[.agg #[.slice A m.length c, .slice B p.length d, .int .i64 q], .int .i64 i] w fun e w' => RefE m (p ++ [i]) q e w' ∧ Below w.heap.size w w' := by
  have hf : demurralref22_put.f m p q i = some (m, p ++ [i], q) := by
    unfold demurralref22_put.f
    rw [Option.bind_some, if_pos (by simp; omega), Option.bind_some, if_pos (by simp; omega)]
    simp
  refine (demurralref22_put.calls _ A c m B d p q i _ _ _ w (V_of28 hC hc) hP hd hf).mono ?_
  rintro e w' ⟨v0, v1, rfl, h0, h1, hb⟩
  obtain ⟨A', c', rfl⟩ := Kd.V_slice h0
  obtain ⟨_, p1, p2⟩ := Kd.V_reads' h0
  obtain ⟨B', d', rfl, p3, p4⟩ := Kd.R_reads h1
  exact ⟨⟨A', c', B', d', rfl, p1, p3, p2, p4, row3_of_R h1⟩, hb⟩
theorem turned_calls (t : S28) (w : World) : Calls Try.prog 83 #[tv t] w fun e w' => e = .returned (tv (turnT t)) ∧ Below w.heap.size w w' := by
  refine (demurralref20_Turned.calls _ _ _ _ _ _ _ _ w (turned_f t)).mono ?_
  rintro e w' ⟨rfl, hb⟩
  exact ⟨rfl, hb⟩
theorem at20_calls (A : Option Addr) (c : Nat) (l : List S28) (t : S28) (w : World) (hC : k28.C w A l.length l) (hc : l.length ≤ c) (hl : l.length ≤ 1000000) :
    Calls Try.prog 53 #[.slice A l.length c, tv t] w fun e w' => e = .returned (.int .i64 (idxT l t)) ∧ Below w.heap.size w w' := by
  have hf := at_f l hl t (l.length + 1) (Nat.lt_succ_self _)
  rw [atI_idx] at hf
  refine (demurralref20_At.calls _ A c l _ _ _ _ _ w hC hc hf).mono ?_
  rintro e w' ⟨rfl, hb⟩
  exact ⟨rfl, hb⟩
theorem own_slice {W : World} {base e size n : Nat} {v : Value} {xs : List Value} (h : W.ownsRow base e size v n xs) : ∃ D c, v = .slice D n c := by
  rcases h.2 with ⟨rfl, h0⟩ | ⟨g, cap, cur, rfl, _⟩
  · exact ⟨none, 0, by rw [h0]⟩
  · exact ⟨_, _, rfl⟩
theorem cellsT_get {W : World} {ad : Addr} {n : Nat} {ts : List S28} (h : k28.C W (some ad) n ts) (j : Nat) (u : Value) (hj : (ts.flatMap cellsT)[j]? = some u) : W.cell? (ad.add j) = some u := by
  have hlt : j < ts.length * 4 := by
    have := (List.getElem?_eq_some_iff.1 hj).1
    rwa [flat_len cellsT 4 (fun _ => rfl)] at this
  have hq : j / 4 < ts.length := by omega
  have hp : ts[j / 4]? = some ts[j / 4] := List.getElem?_eq_getElem hq
  have hm : j / 4 * 4 + j % 4 = j := by omega
  have hn : 0 < n := by rw [← h.1]; omega
  obtain ⟨ad', e, hc⟩ := h.2.2 hn
  injection e with e
  subst e
  obtain ⟨c, hs, hr, hcell⟩ := hc _ _ hp
  obtain rfl := k28_open hr
  have hf := flat_get cellsT 4 (fun _ => rfl) ts (j / 4) (j % 4) _ hp (by omega)
  rw [hm, hj] at hf
  have := hcell (j % 4) u hf.symm
  rwa [show j / 4 * k28.sz + j % 4 = j from hm] at this
theorem ownT_C {W : World} {base n c : Nat} {D : Option Addr} {ts : List S28} (h : W.ownsRow base 28 4 (.slice D n c) n (ts.flatMap cellsT)) (hn : n = ts.length) : n ≤ c ∧ k28.C W D n ts := by
  obtain ⟨_, ⟨hv, h0⟩ | ⟨g, cap, cur, hv, _, hg, hc1, hc2, hc3, hc4⟩⟩ := h
  · injection hv with h1 h2 h3
    subst h0
    obtain rfl : ts = [] := List.eq_nil_of_length_eq_zero hn.symm
    exact ⟨Nat.zero_le _, by rw [h1]; exact Kd.C_nil _ _⟩
  · injection hv with h1 h2 h3
    subst h1 h3
    refine ⟨hc1, hn.symm, Nat.le_trans hc1 hc2, fun _ => ⟨_, rfl, fun j p hj => ⟨cellsT p, rfl, k28_mk _ _, fun i u hu => ?_⟩⟩⟩
    have hi : i < 4 := by
      have := (List.getElem?_eq_some_iff.1 hu).1
      simpa [cellsT] using this
    have hjn : j < n := by rw [hn]; exact (List.getElem?_eq_some_iff.1 hj).1
    rw [Addr.add_lit, blk_cell hg, show 0 + (j * k28.sz + i) = j * 4 + i from Nat.zero_add _]
    have h5 := congrArg (fun l => l[j * 4 + i]?) hc4
    simp only [List.getElem?_take] at h5
    rw [if_pos (by omega), flat_get cellsT 4 (fun _ => rfl) ts j i p hj hi] at h5
    rw [← Array.getElem?_toList]
    exact h5.trans hu
theorem cellsT_one (ts : List S28) : ∀ u ∈ ts.flatMap cellsT, u.oneCell' = true := fun u hu => by
  obtain ⟨t, _, h⟩ := List.mem_flatMap.1 hu
  simp only [cellsT, List.mem_cons, List.not_mem_nil, or_false] at h
  rcases h with rfl | rfl | rfl | rfl <;> simp [Value.oneCell']
def bx (A : Option Addr) (n c : Nat) (B : Option Addr) (k d : Nat) (q : Int) : Obj := .cells #[.slice A n c, .slice B k d, .int .i64 q] 56 (0, 0)
def tx (t : S28) : Obj := .cells #[.int .i64 t.f0, .int .u64 t.f1, .int .i64 t.f2, .int .i64 t.f3] 28 (0, 0)
theorem refE_box {W W' : World} {m : List S28} {p : List Int} {q : Int} {A B : Option Addr} {n c k d o t : Nat} {cur : Array Value} (hnk : n = m.length ∧ k = p.length) (h1 : n ≤ c) (h2 : k ≤ d) (h3 : k28.C W A n m) (h4 : (Kd.int .i64).C W B k p) (h5 : Row3 W B)
    (hv : ∀ v ∈ cur, ∀ i, v ≠ .int .u64 i) (ht : t ≠ 3) (hg : W.heap[o]? = some (.cells cur t (0, 0))) (hb : W.grownBy W' (some o)) : RefE m p q (.returned (.agg #[.slice A n c, .slice B k d, .int .i64 q])) W' := by
  obtain ⟨rfl, rfl⟩ := hnk
  have hne : ∀ ad, B = some ad → W'.heap[ad.block]? = W.heap[ad.block]? := fun ad e => by
    obtain ⟨cu, hcu⟩ := h5 ad e
    exact hb.block _ (blk_lt hcu) fun e2 => by
      injection e2 with e2
      rw [e2, hg] at hcu
      injection hcu with hcu
      injection hcu with _ hcu
      exact ht hcu
  exact ⟨A, c, B, d, rfl, h1, h2, C28_name h3 hg hv hb, CI_same h4 fun ad e _ => hne ad e, fun ad e => by obtain ⟨cu, hcu⟩ := h5 ad e; exact ⟨cu, (hne ad e).trans hcu⟩⟩
/-- What add makes of a list, of recipes, and of an error. -/
def addV (m : List S28) (p : List Int) (q : Int) (t : S28) : List S28 × List Int × Int :=
  if idxT m (turnT t) < 0 then (m ++ [turnT t], p ++ [(m.length : Int)], if 400 < m.length + 1 then 6 else q) else (m, p ++ [idxT m (turnT t)], q)
set_option maxHeartbeats 2000000 in
set_option maxRecDepth 100000 in
theorem refadd_calls (A : Option Addr) (c : Nat) (m : List S28) (B : Option Addr) (d : Nat) (p : List Int) (q : Int) (t : S28) (w : World) (hC : k28.C w A m.length m) (hc : m.length ≤ c) (hml : m.length ≤ 100000) (hm0 : 0 < m.length) (hP : (Kd.int .i64).C w B p.length p) (hd : p.length ≤ d) (hpl : p.length ≤ 100000) :
    Calls Try.prog 70 #[.agg #[.slice A m.length c, .slice B p.length d, .int .i64 q], tv t] w fun e w' => RefE (addV m p q t).1 (addV m p q t).2.1 (addV m p q t).2.2 e w' ∧ Below w.heap.size w w' := by
  obtain ⟨w1, hw1⟩ : ∃ w1, w.alloc (.cells #[.slice A m.length c, .slice B p.length d, .int .i64 q] 56 (0, 0)) = w1 := ⟨_, rfl⟩
  have hb1 : Below w.heap.size w w1 := by rw [← hw1]; exact below_alloc (Below.refl _ _) _
  have hK1 : w1.heap[w.heap.size]? = some (.cells #[.slice A m.length c, .slice B p.length d, .int .i64 q] 56 (0, 0)) := by rw [← hw1]; exact heap_alloc_new _ _
  obtain ⟨w2, hw2⟩ : ∃ w2, w1.alloc (.cells #[.int .i64 t.f0, .int .u64 t.f1, .int .i64 t.f2, .int .i64 t.f3] 28 (0, 0)) = w2 := ⟨_, rfl⟩
  have hb2 : Below w1.heap.size w1 w2 := by rw [← hw2]; exact below_alloc (Below.refl _ _) _
  have hK2 : w2.heap[w1.heap.size]? = some (.cells #[.int .i64 t.f0, .int .u64 t.f1, .int .i64 t.f2, .int .i64 t.f3] 28 (0, 0)) := by rw [← hw2]; exact heap_alloc_new _ _
  obtain ⟨w3, hw3⟩ : ∃ w3, w2.alloc (.cells #[.slice none 0 0, .slice none 0 0, .int .i64 0] 56 (0, 0)) = w3 := ⟨_, rfl⟩
  have hb3 : Below w2.heap.size w2 w3 := by rw [← hw3]; exact below_alloc (Below.refl _ _) _
  have hK3 : w3.heap[w2.heap.size]? = some (.cells #[.slice none 0 0, .slice none 0 0, .int .i64 0] 56 (0, 0)) := by rw [← hw3]; exact heap_alloc_new _ _
  have hK2' := (hb3.block _ (blk_lt hK2)).trans hK2
  have hK1' := (hb3.block _ (Nat.lt_of_lt_of_le (blk_lt hK1) hb2.size)).trans ((hb2.block _ (blk_lt hK1)).trans hK1)
  have hB3 : Below w.heap.size w w3 := below_step (below_step hb1 hb2) hb3
  have ho : w.heap.size < w1.heap.size ∧ w1.heap.size < w2.heap.size := ⟨blk_lt hK1, blk_lt hK2⟩
  clear hK1 hK2 hb1 hb2 hb3
  replace hC := Aside0.mk hC
  replace hP := Aside0.mk hP
  obtain ⟨y0, y1, y2, y3⟩ := box4 hK2'
  have hcall := Aside0.mk (turned_calls t w3)
  go_enter Try.func70, Try.ntmps70
  go_wp2_with fail
  refine hcall.out.mono ?_; rintro e_ w4 ⟨rfl, hb4⟩
  have hans : addV m p q t = if idxT m (turnT t) < 0 then (m ++ [turnT t], p ++ [(m.length : Int)], if 400 < m.length + 1 then 6 else q) else (m, p ++ [idxT m (turnT t)], q) := rfl
  generalize turnT t = u at hans ⊢
  have hK1 := (hb4.block _ (blk_lt hK1')).trans hK1'
  have hK2 := (hb4.block _ (blk_lt hK2')).trans hK2'
  have hK3' := (hb4.block _ (blk_lt hK3)).trans hK3
  have hB4 := below_step hB3 hb4
  clear hcall hb4 hK3 hK2' hK1' y0 y1 y2 y3 hB3
  generalize w1.heap.size = b at ho hK2 ⊢
  generalize w2.heap.size = o at ho hK3' ⊢
  go_wp2_with ((with_reducible refine gate_store (t := 28) (p := 3) rfl ?_); go_loud (refine wpList_storeBox rfl rfl 28 (.tmp 3) (.tmp 8) rfl (tv u) [.int .i64 u.f0, .int .u64 u.f1, .int .i64 u.f2, .int .i64 u.f3] rfl rfl rfl (by kernel_rfl) (by simp [Value.oneCell']) hK2 rfl ?_); intro w5 hK5 hg5 hs5; have hK1 := (hg5.block _ (blk_lt hK1) (by simp; omega)).trans hK1; have hK3' := (hg5.block _ (blk_lt hK3') (by simp; omega)).trans hK3'; have hB5 := hB4.grown hg5 hB4.size (fun k hk => by injection hk; omega); obtain ⟨x0, x1, x2⟩ := box3 hK1; obtain ⟨y0, y1, y2, y3⟩ := box4 hK5; have hcall := Aside0.mk (at20_calls A c m u w5 (Kd.C_below hC.out hB5) hc (by omega)); clear hK2 hg5 hs5)
  refine hcall.out.mono ?_; rintro e_ w6 ⟨rfl, hb6⟩
  have hK1 := (hb6.block _ (blk_lt hK1)).trans hK1
  have hK2 := (hb6.block _ (blk_lt hK5)).trans hK5
  have hK3 := (hb6.block _ (blk_lt hK3')).trans hK3'
  have hB6 := below_step hB5 hb6
  clear hcall hb6 hK3' hK5 x0 x1 x2 y0 y1 y2 y3
  obtain ⟨x0, x1, x2⟩ := box3 hK1
  obtain ⟨j, hj⟩ : ∃ j, idxT m u = j := ⟨_, rfl⟩
  rw [hj] at hans ⊢
  by_cases hneg : j < 0
  · rw [if_pos hneg] at hans
    obtain ⟨i0, hi, hz0, hz1, hz2⟩ := info_parts info28
    obtain ⟨ad, rfl, -⟩ := at_T28 hC.out 0 (by omega) (by omega)
    obtain ⟨w7, hw7⟩ : ∃ w7, w6.alloc (.cells #[] 28 (0, 0)) = w7 := ⟨_, rfl⟩
    have hb7 : Below w6.heap.size w6 w7 := by rw [← hw7]; exact below_alloc (Below.refl _ _) _
    have hK7 : w7.heap[w6.heap.size]? = some (.cells #[] 28 (0, 0)) := by rw [← hw7]; exact heap_alloc_new _ _
    have hown7 : w7.ownsRow w6.heap.size 28 4 (.slice (some ⟨w6.heap.size, 0, none⟩) 0 0) 0 [] := ⟨rfl, .inr ⟨_, 0, _, rfl, Nat.le_refl _, hK7, Nat.le_refl _, by decide, rfl, rfl⟩⟩
    have hB7 := below_step hB6 hb7
    have hL1 := (hb7.block _ (blk_lt hK1)).trans hK1
    have hL2 := (hb7.block _ (blk_lt hK2)).trans hK2
    have hL3 := (hb7.block _ (blk_lt hK3)).trans hK3
    have hCC7 := Kd.C_below hC.out hB7
    have hwz : w.heap.size < w6.heap.size := blk_lt hK1
    have hbz : b < w6.heap.size := blk_lt hK2
    have hoz : o < w6.heap.size := blk_lt hK3
    have hw67 : w6.heap.size ≤ w7.heap.size := hb7.size
    have x7 := (box3 hL1).1
    clear x1 x2 hK7
    replace hans := Lib.hid hans
    by_cases h400 : (400 : Int) < (m.length : Int) + 1
    · go_wp2_with (first
      | ((with_reducible refine gate_dst (N := 22) rfl ?_); go_loud (refine wpList_append_own _ rfl _ _ 23 rfl w6.heap.size 28 i0 (.agg #[(.int .i64 0), (.int .u64 0), (.int .i64 0), (.int .i64 0)]) 4 32 Try.underlying23 hi hz0 hz1 hz2 rfl (by decide) (.slice (some ⟨w6.heap.size, 0, none⟩) 0 0) 0 [] rfl hown7 ad m.length c (m.flatMap cellsT) rfl (flat_len cellsT 4 (fun _ => rfl) m) (cellsT_get hCC7) (cellsT_one m) (by simp only [maxLen]; omega) (by omega) hw67 ?_; intro v8 w8 hown8 hgr8 _; rw [Nat.zero_add, List.nil_append] at hown8; obtain ⟨D8, c8, rfl⟩ := own_slice hown8; have hN1 := (hgr8.block _ (blk_lt hL1) (by simp [Value.ownBlock]; omega)).trans hL1; have hN2 := (hgr8.block _ (blk_lt hL2) (by simp [Value.ownBlock]; omega)).trans hL2; have hN3 := (hgr8.block _ (blk_lt hL3) (by simp [Value.ownBlock]; omega)).trans hL3; have hB8 := hB7.grown hgr8 hB7.size (fun k hk => by simp [Value.ownBlock] at hk; omega); obtain ⟨y0, y1, y2, y3⟩ := box4 hN2))
      | ((with_reducible refine gate_dst (N := 26) rfl ?_); go_loud (have halloc := World.grownBy_alloc w8 (.cells #[.int .i64 u.f0, .int .u64 u.f1, .int .i64 u.f2, .int .i64 u.f3] 28) none; refine wpList_append_own _ rfl _ _ 23 rfl w6.heap.size 28 i0 (.agg #[(.int .i64 0), (.int .u64 0), (.int .i64 0), (.int .i64 0)]) 4 32 Try.underlying23 hi hz0 hz1 hz2 rfl (by decide) (.slice D8 m.length c8) m.length _ rfl (hown8.alloc _) ⟨w8.heap.size, 0, none⟩ 1 1 (cellsT u) rfl rfl (fun j u' hj => by rw [Addr.add_lit, blk_cell (heap_alloc_new w8 _), Nat.zero_add]; simpa [cellsT] using hj) (fun x hx => cellsT_one [u] x (by simpa using hx)) (by simp only [maxLen]; omega) (by omega) (by have := hgr8.size; simp; omega) ?_; intro v10 w10 hown10 hgr10 _; have hbk := own_base hown8; have hO1 := (hgr10.block _ (by simp; have := blk_lt hN1; omega) (fun e => by have := hbk _ e.symm; omega)).trans ((halloc.block _ (blk_lt hN1) (by simp)).trans hN1); have hO3 := (hgr10.block _ (by simp; have := blk_lt hN3; omega) (fun e => by have := hbk _ e.symm; omega)).trans ((halloc.block _ (blk_lt hN3) (by simp)).trans hN3); have hB10 := (below_step hB8 (below_alloc (Below.refl w8.heap.size w8) (.cells #[.int .i64 u.f0, .int .u64 u.f1, .int .i64 u.f2, .int .i64 u.f3] 28))).grown hgr10 (by simp; have := hB8.size; omega) (fun k hk => by have := hbk k hk; omega); rw [show m.flatMap cellsT ++ cellsT u = (m ++ [u]).flatMap cellsT from by simp] at hown10; obtain ⟨D10, c10, rfl⟩ := own_slice hown10))
      | ((with_reducible refine gate_store (t := 23) (p := 28) rfl ?_); go_loud (refine wpList_storeField rfl rfl 23 (.tmp 28) (.tmp 27) rfl 0 (.slice D10 (m.length + 1) c10) #[.slice D10 (m.length + 1) c10, .slice B p.length d, .int .i64 q] rfl rfl rfl (by kernel_rfl) rfl hO1 (Nat.le_of_ble_eq_true rfl) rfl ?_; intro w11 hP1 hg11 hs11; have hB11 := hB10.grown hg11 hB10.size (fun k hk => by injection hk; omega); have hP3 := (hg11.block _ (blk_lt hO3) (by simp; omega)).trans hO3; have hown11 := hown10.kept hg11 (.inr (own_ne hown10 hO1 (by decide)).symm)))
      | ((with_reducible refine gate_store (t := 29) (p := 32) rfl ?_); go_loud (refine wpList_storeField rfl rfl 29 (.tmp 32) (.const (.int .i64 6)) rfl 2 (.int .i64 6) #[.slice D10 (m.length + 1) c10, .slice B p.length d, .int .i64 6] rfl rfl rfl (by kernel_rfl) rfl hP1 (Nat.le_of_ble_eq_true rfl) rfl ?_; intro w12 hR1 hg12 hs12; have hB12 := hB11.grown hg12 hB11.size (fun k hk => by injection hk; omega); have hR3 := (hg12.block _ (blk_lt hP3) (by simp; omega)).trans hP3; have hown12 := hown11.kept hg12 (.inr (own_ne hown11 hP1 (by decide)).symm); obtain ⟨x0, x1, x2⟩ := box3 hR1; obtain ⟨hcD, hCD⟩ := ownT_C hown12 (by simp); have hput := put_calls D10 c10 (m ++ [u]) B d p 6 (m.length : Int) w12 (by simpa using hCD) (by simpa using hcD) (Kd.C_below hP.out hB12) hd (by omega); simp only [List.length_append, List.length_singleton] at hput; replace hput := Aside0.mk hput)))
      refine hput.out.mono ?_; rintro e_ w13 ⟨⟨A', c', B', d', rfl, g1, g2, g3, g4, g5⟩, hb13⟩
      have hS3 := (hb13.block _ (blk_lt hR3)).trans hR3
      have hB13 := below_step hB12 hb13
      clear hput x0 x1 x2 hb13 hown8 hown10 hown11 hi hz0 hz1 hz2
      go_wp2_with ((with_reducible refine gate_store (t := 56) (p := 4) rfl ?_); go_loud (refine wpList_storeBox rfl rfl 56 (.tmp 4) (.tmp 35) rfl (.agg #[.slice A' _ c', .slice B' _ d', .int .i64 _]) [.slice A' _ c', .slice B' _ d', .int .i64 _] rfl rfl rfl (by kernel_rfl) (by simp [Value.oneCell']) hS3 rfl ?_); intro w14 hT3 hg14 hs14)
      have hB14 := hB13.grown hg14 hB13.size (fun k hk => by injection hk; omega)
      refine bodyPost_ret (results_cell_row rfl _ _ o 56 _ (0, 0) _ rfl hT3 Try.underlying56 rfl (by kernel_rfl)) rfl ?_
      refine ⟨?_, hB14⟩
      rw [hans.out]
      show RefE (m ++ [u]) (p ++ [(m.length : Int)]) (if 400 < m.length + 1 then 6 else q) _ _
      rw [if_pos (by omega)]
      exact refE_box ⟨by simp, by simp⟩ (by simpa using g1) (by simpa using g2) (by simpa using g3) (by simpa using g4) g5 (by simp) (by decide) hS3 hg14
    · go_wp2_with (first
      | ((with_reducible refine gate_dst (N := 22) rfl ?_); go_loud (refine wpList_append_own _ rfl _ _ 23 rfl w6.heap.size 28 i0 (.agg #[(.int .i64 0), (.int .u64 0), (.int .i64 0), (.int .i64 0)]) 4 32 Try.underlying23 hi hz0 hz1 hz2 rfl (by decide) (.slice (some ⟨w6.heap.size, 0, none⟩) 0 0) 0 [] rfl hown7 ad m.length c (m.flatMap cellsT) rfl (flat_len cellsT 4 (fun _ => rfl) m) (cellsT_get hCC7) (cellsT_one m) (by simp only [maxLen]; omega) (by omega) hw67 ?_; intro v8 w8 hown8 hgr8 _; rw [Nat.zero_add, List.nil_append] at hown8; obtain ⟨D8, c8, rfl⟩ := own_slice hown8; have hN1 := (hgr8.block _ (blk_lt hL1) (by simp [Value.ownBlock]; omega)).trans hL1; have hN2 := (hgr8.block _ (blk_lt hL2) (by simp [Value.ownBlock]; omega)).trans hL2; have hN3 := (hgr8.block _ (blk_lt hL3) (by simp [Value.ownBlock]; omega)).trans hL3; have hB8 := hB7.grown hgr8 hB7.size (fun k hk => by simp [Value.ownBlock] at hk; omega); obtain ⟨y0, y1, y2, y3⟩ := box4 hN2))
      | ((with_reducible refine gate_dst (N := 26) rfl ?_); go_loud (have halloc := World.grownBy_alloc w8 (.cells #[.int .i64 u.f0, .int .u64 u.f1, .int .i64 u.f2, .int .i64 u.f3] 28) none; refine wpList_append_own _ rfl _ _ 23 rfl w6.heap.size 28 i0 (.agg #[(.int .i64 0), (.int .u64 0), (.int .i64 0), (.int .i64 0)]) 4 32 Try.underlying23 hi hz0 hz1 hz2 rfl (by decide) (.slice D8 m.length c8) m.length _ rfl (hown8.alloc _) ⟨w8.heap.size, 0, none⟩ 1 1 (cellsT u) rfl rfl (fun j u' hj => by rw [Addr.add_lit, blk_cell (heap_alloc_new w8 _), Nat.zero_add]; simpa [cellsT] using hj) (fun x hx => cellsT_one [u] x (by simpa using hx)) (by simp only [maxLen]; omega) (by omega) (by have := hgr8.size; simp; omega) ?_; intro v10 w10 hown10 hgr10 _; have hbk := own_base hown8; have hO1 := (hgr10.block _ (by simp; have := blk_lt hN1; omega) (fun e => by have := hbk _ e.symm; omega)).trans ((halloc.block _ (blk_lt hN1) (by simp)).trans hN1); have hO3 := (hgr10.block _ (by simp; have := blk_lt hN3; omega) (fun e => by have := hbk _ e.symm; omega)).trans ((halloc.block _ (blk_lt hN3) (by simp)).trans hN3); have hB10 := (below_step hB8 (below_alloc (Below.refl w8.heap.size w8) (.cells #[.int .i64 u.f0, .int .u64 u.f1, .int .i64 u.f2, .int .i64 u.f3] 28))).grown hgr10 (by simp; have := hB8.size; omega) (fun k hk => by have := hbk k hk; omega); rw [show m.flatMap cellsT ++ cellsT u = (m ++ [u]).flatMap cellsT from by simp] at hown10; obtain ⟨D10, c10, rfl⟩ := own_slice hown10))
      | ((with_reducible refine gate_store (t := 23) (p := 28) rfl ?_); go_loud (refine wpList_storeField rfl rfl 23 (.tmp 28) (.tmp 27) rfl 0 (.slice D10 (m.length + 1) c10) #[.slice D10 (m.length + 1) c10, .slice B p.length d, .int .i64 q] rfl rfl rfl (by kernel_rfl) rfl hO1 (Nat.le_of_ble_eq_true rfl) rfl ?_; intro w11 hP1 hg11 hs11; have hB11 := hB10.grown hg11 hB10.size (fun k hk => by injection hk; omega); have hP3 := (hg11.block _ (blk_lt hO3) (by simp; omega)).trans hO3; have hown11 := hown10.kept hg11 (.inr (own_ne hown10 hO1 (by decide)).symm); obtain ⟨x0, x1, x2⟩ := box3 hP1; obtain ⟨hcD, hCD⟩ := ownT_C hown11 (by simp); have hput := put_calls D10 c10 (m ++ [u]) B d p q (m.length : Int) w11 (by simpa using hCD) (by simpa using hcD) (Kd.C_below hP.out hB11) hd (by omega); simp only [List.length_append, List.length_singleton] at hput; replace hput := Aside0.mk hput)))
      refine hput.out.mono ?_; rintro e_ w13 ⟨⟨A', c', B', d', rfl, g1, g2, g3, g4, g5⟩, hb13⟩
      have hS3 := (hb13.block _ (blk_lt hP3)).trans hP3
      have hB13 := below_step hB11 hb13
      clear hput x0 x1 x2 hb13 hown8 hown10 hown11 hi hz0 hz1 hz2
      go_wp2_with ((with_reducible refine gate_store (t := 56) (p := 4) rfl ?_); go_loud (refine wpList_storeBox rfl rfl 56 (.tmp 4) (.tmp 35) rfl (.agg #[.slice A' _ c', .slice B' _ d', .int .i64 _]) [.slice A' _ c', .slice B' _ d', .int .i64 _] rfl rfl rfl (by kernel_rfl) (by simp [Value.oneCell']) hS3 rfl ?_); intro w14 hT3 hg14 hs14)
      have hB14 := hB13.grown hg14 hB13.size (fun k hk => by injection hk; omega)
      refine bodyPost_ret (results_cell_row rfl _ _ o 56 _ (0, 0) _ rfl hT3 Try.underlying56 rfl (by kernel_rfl)) rfl ?_
      refine ⟨?_, hB14⟩
      rw [hans.out]
      show RefE (m ++ [u]) (p ++ [(m.length : Int)]) (if 400 < m.length + 1 then 6 else q) _ _
      rw [if_neg (by omega)]
      exact refE_box ⟨by simp, by simp⟩ (by simpa using g1) (by simpa using g2) (by simpa using g3) (by simpa using g4) g5 (by simp) (by decide) hS3 hg14
  · rw [if_neg hneg] at hans
    have hput := Aside0.mk (put_calls A c m B d p q j w6 (Kd.C_below hC.out hB6) hc (Kd.C_below hP.out hB6) hd (by omega))
    replace hans := Lib.hid hans
    go_wp2_with fail
    refine hput.out.mono ?_; rintro e_ w7 ⟨⟨A', c', B', d', rfl, g1, g2, g3, g4, g5⟩, hb7⟩
    have hS3 := (hb7.block _ (blk_lt hK3)).trans hK3
    have hB7 := below_step hB6 hb7
    clear hput x0 x1 x2 hb7
    go_wp2_with ((with_reducible refine gate_store (t := 56) (p := 4) rfl ?_); go_loud (refine wpList_storeBox rfl rfl 56 (.tmp 4) (.tmp 35) rfl (.agg #[.slice A' _ c', .slice B' _ d', .int .i64 _]) [.slice A' _ c', .slice B' _ d', .int .i64 _] rfl rfl rfl (by kernel_rfl) (by simp [Value.oneCell']) hS3 rfl ?_); intro w8 hT3 hg8 hs8)
    have hB8 := hB7.grown hg8 hB7.size (fun k hk => by injection hk; omega)
    refine bodyPost_ret (results_cell_row rfl _ _ o 56 _ (0, 0) _ rfl hT3 Try.underlying56 rfl (by kernel_rfl)) rfl ?_
    refine ⟨?_, hB8⟩
    rw [hans.out]
    exact refE_box ⟨by simp, by simp⟩ (by simpa using g1) (by simpa using g2) (by simpa using g3) (by simpa using g4) g5 (by simp) (by decide) hS3 hg8

theorem addV_len (m : List S28) (p : List Int) (q : Int) (t : S28) : m.length ≤ (addV m p q t).1.length ∧ (addV m p q t).1.length ≤ m.length + 1 ∧ (addV m p q t).2.1.length = p.length + 1 := by
  unfold addV
  split
  · exact ⟨by simp, by simp, by simp⟩
  · exact ⟨Nat.le_refl _, Nat.le_succ _, by simp⟩
abbrev R3 := List S28 × List Int × Int
def addW (r : R3) (t : S28) : R3 := addV r.1 r.2.1 r.2.2 t
def putW (r : R3) (i : Int) : R3 := (r.1, r.2.1 ++ [i], r.2.2)
theorem addW_len (r : R3) (t : S28) : r.1.length ≤ (addW r t).1.length ∧ (addW r t).1.length ≤ r.1.length + 1 ∧ (addW r t).2.1.length = r.2.1.length + 1 := addV_len _ _ _ _
theorem putW_len (r : R3) (i : Int) : r.1.length ≤ (putW r i).1.length ∧ (putW r i).1.length ≤ r.1.length + 1 ∧ (putW r i).2.1.length = r.2.1.length + 1 := ⟨Nat.le_refl _, Nat.le_succ _, by simp [putW]⟩
def oneT (r : R3) (t : S28) (x : Int) : R3 := if t.f0 = 4 then putW (putW (addW (addW r ⟨1, 0, x, 0⟩) ⟨3, 0, x, 0⟩) t.f2) t.f3 else putW (putW (addW (addW r ⟨1, 0, x, 0⟩) ⟨3, 0, x, 0⟩) (-1)) (-1)
def oneV (r : R3) (x : Int) : R3 := oneT r (rd_T28 r.1 x) x
def twoT (r : R3) (t : S28) (x y : Int) : R3 :=
  addW (if t.f0 = 5 ∧ t.f2 = x then putW (addW (if t.f0 = 1 then addW r ⟨2, 0, x, t.f2⟩ else putW r (-1)) ⟨4, 0, x, y⟩) t.f3 else putW (addW (if t.f0 = 1 then addW r ⟨2, 0, x, t.f2⟩ else putW r (-1)) ⟨4, 0, x, y⟩) (-1)) ⟨6, 0, x, y⟩
def twoV (r : R3) (x y : Int) : R3 := twoT r (rd_T28 r.1 y) x y
/-- A list, recipes, and the error, in a value. -/
def InR (W : World) (r : R3) (v : Value) : Prop := ∃ A c B d, v = .agg #[.slice A r.1.length c, .slice B r.2.1.length d, .int .i64 r.2.2] ∧ r.1.length ≤ c ∧ r.2.1.length ≤ d ∧ k28.C W A r.1.length r.1 ∧ (Kd.int .i64).C W B r.2.1.length r.2.1
def InR3 (W : World) (r : R3) (v : Value) : Prop := ∃ A c B d, v = .agg #[.slice A r.1.length c, .slice B r.2.1.length d, .int .i64 r.2.2] ∧ r.1.length ≤ c ∧ r.2.1.length ≤ d ∧ k28.C W A r.1.length r.1 ∧ (Kd.int .i64).C W B r.2.1.length r.2.1 ∧ Row3 W B
theorem addW_calls (r : R3) (A : Option Addr) (c : Nat) (B : Option Addr) (d : Nat) (t : S28) (w : World) (hc : r.1.length ≤ c) (hd : r.2.1.length ≤ d) (hC : k28.C w A r.1.length r.1) (hP : (Kd.int .i64).C w B r.2.1.length r.2.1) (hl : r.1.length ≤ 100000 ∧ 0 < r.1.length ∧ r.2.1.length ≤ 100000) :
    Calls Try.prog 70 #[.agg #[.slice A r.1.length c, .slice B r.2.1.length d, .int .i64 r.2.2], tv t] w fun e w' => (∃ v, e = .returned v ∧ InR3 w' (addW r t) v) ∧ Below w.heap.size w w' :=
  (refadd_calls A c r.1 B d r.2.1 r.2.2 t w hC hc hl.1 hl.2.1 hP hd hl.2.2).mono fun e w' ⟨⟨A', c', B', d', h, g1, g2, g3, g4, g5⟩, hb⟩ => ⟨⟨_, h, A', c', B', d', rfl, g1, g2, g3, g4, g5⟩, hb⟩
theorem putW_calls (r : R3) (A : Option Addr) (c : Nat) (B : Option Addr) (d : Nat) (i : Int) (w : World) (hc : r.1.length ≤ c) (hd : r.2.1.length ≤ d) (hC : k28.C w A r.1.length r.1) (hP : (Kd.int .i64).C w B r.2.1.length r.2.1) (hl : r.1.length ≤ 100000 ∧ 0 < r.1.length ∧ r.2.1.length ≤ 100000) :
    Calls Try.prog 71 #[.agg #[.slice A r.1.length c, .slice B r.2.1.length d, .int .i64 r.2.2], .int .i64 i] w fun e w' => (∃ v, e = .returned v ∧ InR3 w' (putW r i) v) ∧ Below w.heap.size w w' :=
  (put_calls A c r.1 B d r.2.1 r.2.2 i w hC hc hP hd (by omega)).mono fun e w' ⟨⟨A', c', B', d', h, g1, g2, g3, g4, g5⟩, hb⟩ => ⟨⟨_, h, A', c', B', d', rfl, g1, g2, g3, g4, g5⟩, hb⟩
theorem inR3_kept {W W' : World} {r : R3} {A B : Option Addr} {c d o t : Nat} {cur : Array Value} (h1 : r.1.length ≤ c) (h2 : r.2.1.length ≤ d) (h3 : k28.C W A r.1.length r.1) (h4 : (Kd.int .i64).C W B r.2.1.length r.2.1) (h5 : Row3 W B)
    (hv : ∀ v ∈ cur, ∀ i, v ≠ .int .u64 i) (ht : t ≠ 3) (hg : W.heap[o]? = some (.cells cur t (0, 0))) (hb : W.grownBy W' (some o)) : k28.C W' A r.1.length r.1 ∧ (Kd.int .i64).C W' B r.2.1.length r.2.1 ∧ Row3 W' B := by
  have hne : ∀ ad, B = some ad → W'.heap[ad.block]? = W.heap[ad.block]? := fun ad e => by
    obtain ⟨cu, hcu⟩ := h5 ad e
    exact hb.block _ (blk_lt hcu) fun e2 => by
      injection e2 with e2
      rw [e2, hg] at hcu
      injection hcu with hcu
      injection hcu with _ hcu
      exact ht hcu
  exact ⟨C28_name h3 hg hv hb, CI_same h4 fun ad e _ => hne ad e, fun ad e => by obtain ⟨cu, hcu⟩ := h5 ad e; exact ⟨cu, (hne ad e).trans hcu⟩⟩
end Go.Proofs.Ytenmmeehgnkcpaa.Q
