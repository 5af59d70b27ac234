/- EquivTells: whether any two frames can be told apart, and by which recipes, is as the document says, or refused.
   Conditions: the list and the frames are read as such. -/
import Derived.Test.YtenmmeehgnkcpaaHLawRec22
import Derived.Test.YtenmmeehgnkcpaaQx160
namespace Go.Proofs.Ytenmmeehgnkcpaa.Q
open Go.RowKit Go.Proofs.YtenmmeehgnkcpaaW.PrintWords Go.Proofs.YtenmmeehgnkcpaaW.PrintLast Go.Proofs.YtenmmeehgnkcpaaW.PrintMore
set_option linter.unusedVariables false
set_option linter.unusedSimpArgs false

def okPut : It → Prop
  | .put i => -1 ≤ i
  | .add _ => True
theorem cookA_ge (s : StC) (t : S28) : -1 ≤ (cookA s t).2 := by
  unfold cookA
  split
  · rename_i h0
    unfold addR at h0 ⊢
    split at h0
    · split at h0
      · split at h0
        · rename_i a b c
          rw [if_pos a, if_pos b, if_pos c]
          show -1 ≤ idxT _ _
          omega
        · split at h0
          · cases h0
          · rename_i a b c d
            rw [if_pos a, if_pos b, if_neg c, if_neg d]
            show -1 ≤ ((s.1.length : Nat) : Int)
            omega
      · cases h0
    · cases h0
  · exact Int.le_refl _
theorem vals_ge : ∀ (D : List It) (s : StC), (∀ x ∈ D, okPut x) → ∀ v ∈ valsL s D, -1 ≤ v
  | [], s, _, v, h => by cases h
  | x :: D, s, hx, v, h => by
    rcases List.mem_cons.1 h with rfl | h
    · cases x with
      | put i => exact hx (.put i) (List.mem_cons_self ..)
      | add t => exact cookA_ge s t
    · exact vals_ge D _ (fun y hy => hx y (List.mem_cons_of_mem _ hy)) v h
theorem items_put {l : List S28} {fr : List Int} (hr : rightB l = true) (hfr : ∀ x ∈ fr, 0 ≤ x ∧ x < l.length) : ∀ x ∈ items l fr, okPut x := by
  have hm : ∀ x ∈ fr, madeB x (rd_T28 l x) = true := fun x hx => made_at hr x (hfr x hx).1 (hfr x hx).2
  intro x hx
  unfold items at hx
  rcases List.mem_append.1 hx with hx | hx
  · obtain ⟨i, hi, rfl⟩ := List.mem_map.1 hx
    have := hfr i hi
    show -1 ≤ i
    omega
  · rcases List.mem_append.1 hx with hx | hx
    · obtain ⟨i, hi, hx⟩ := List.mem_flatMap.1 hx
      have hmi := madeB_iff.1 (hm i hi)
      simp only [it2, List.mem_cons, List.not_mem_nil, or_false] at hx
      rcases hx with rfl | rfl | rfl | rfl
      · trivial
      · trivial
      · show -1 ≤ (if _ then _ else _)
        split <;> omega
      · show -1 ≤ (if _ then _ else _)
        split <;> omega
    · obtain ⟨i, hi, hx⟩ := List.mem_flatMap.1 hx
      obtain ⟨j, hj, hx⟩ := List.mem_flatMap.1 hx
      have hmj := madeB_iff.1 (hm j hj)
      simp only [it3, List.mem_cons, List.not_mem_nil, or_false] at hx
      rcases hx with rfl | rfl | rfl | rfl
      · split
        · trivial
        · exact Int.le_refl _
      · trivial
      · show -1 ≤ (if _ then _ else _)
        split <;> omega
      · trivial
theorem recR_ge (l : List S28) (fr : List Int) : ∀ v ∈ (recR l fr).2.1, -1 ≤ v := by
  rcases recR_cases l fr with ⟨h, _⟩ | ⟨h, _⟩ | ⟨h, _⟩ | ⟨hr, h5, ha, ⟨h, _⟩ | ⟨h, _⟩⟩
  · rw [h]; simp
  · rw [h]; simp
  · rw [h]; simp
  · rw [h]; simp
  · rw [h]; exact vals_ge _ _ (items_put hr (inL_all ha))
theorem tells_f (x y : List Int) (m n : Nat) (hm : m ≤ n) (hn : n < x.length) (hxy : x.length = y.length) (hx : ∀ v ∈ x, -1 ≤ v) (hy : ∀ v ∈ y, -1 ≤ v) : demurralref22_tells.f x y (m : Int) (n : Int) = some (apB x y m n) := by
  have hb : ∀ v : Int, -1 ≤ v → decide (v < 0) = (v == -1) := fun v hv => by
    by_cases h : v = -1
    · subst h; rfl
    · rw [beq_eq_false_iff_ne.2 h]; exact decide_eq_false (by omega)
  have h1 : -1 ≤ rd x (n : Int) := hx _ (by rw [rdI_nat x n hn]; exact List.getElem_mem _)
  have h2 : -1 ≤ rd y (n : Int) := hy _ (by rw [rdI_nat y n (by omega)]; exact List.getElem_mem _)
  unfold demurralref22_tells.f apB
  by_cases h : m = n
  · subst h
    rw [if_pos rfl, if_pos (by omega), if_pos (by omega), if_pos (by omega), if_pos rfl, hb _ h1, hb _ h2]
  · rw [if_neg (by omega), if_pos (by omega), if_pos (by omega), if_pos (by omega), if_pos (by omega), if_pos (by omega), if_pos (by omega), if_neg h]
def apG (r s : List S28 × List Int × Int) : Int × Int × Int :=
  if r.2.2 = 0 then (if s.2.2 = 0 then (if r.2.1.length = s.2.1.length then (match apFind r.2.1 s.2.1 with
    | some (m, n) => ((m : Int), (n : Int), 0)
    | none => (0, 0, 9)) else (0, 0, 2)) else (0, 0, s.2.2)) else (0, 0, r.2.2)
theorem apart_G (l : List S28) (a b : List Int) : apartR l a b = apG (recR l a) (recR (recR l a).1 b) := by
  unfold apartR
  rw [both_eq l a b _ rfl]
  unfold apG
  by_cases h0 : (recR l a).2.2 = 0
  · rw [if_pos h0, if_pos h0]
    unfold apartV
    dsimp only
    by_cases h1 : (recR (recR l a).1 b).2.2 = 0
    · rw [if_pos h1]
      by_cases h2 : (recR l a).2.1.length = (recR (recR l a).1 b).2.1.length
      · have h3 : ¬ ((recR (recR l a).1 b).2.2 = 0 ∧ (recR l a).2.1.length ≠ (recR (recR l a).1 b).2.1.length) := fun h => h.2 h2
        rw [if_neg h3, if_pos h1, if_pos h2]
        cases apFind (recR l a).2.1 (recR (recR l a).1 b).2.1 with
        | none => rfl
        | some o => rfl
      · have h3 : (recR (recR l a).1 b).2.2 = 0 ∧ (recR l a).2.1.length ≠ (recR (recR l a).1 b).2.1.length := ⟨h1, h2⟩
        rw [if_pos h3, if_neg (by decide), if_neg h2]
    · have h3 : ¬ ((recR (recR l a).1 b).2.2 = 0 ∧ (recR l a).2.1.length ≠ (recR (recR l a).1 b).2.1.length) := fun h => h1 h.1
      rw [if_neg h3, if_neg h1, if_neg h1]
  · rw [if_neg h0, if_neg h0]
    exact if_neg h0
def E62 (m n q : Int) : Value := .agg #[.int .i64 m, .int .i64 n, .int .i64 q]
set_option maxHeartbeats 4000000 in
set_option maxRecDepth 100000 in
theorem refApart_calls (A0 : Option Addr) (c0 : Nat) (l : List S28) (A1 : Option Addr) (c1 : Nat) (a : List Int) (A2 : Option Addr) (c2 : Nat) (b : List Int) (w : World) (hC : k28.C w A0 l.length l) (hc0 : l.length ≤ c0) (hlen : l.length ≤ 1000000) (hwf : ∀ t ∈ l, wfT t)
    (hA : (Kd.int .i64).C w A1 a.length a) (hc1 : a.length ≤ c1) (hal : a.length ≤ 1000000) (hB : (Kd.int .i64).C w A2 b.length b) (hc2 : b.length ≤ c2) (hbl : b.length ≤ 1000000) :
    Calls Try.prog 39 #[.slice A0 l.length c0, .slice A1 a.length c1, .slice A2 b.length c2] w fun e w' => e = .returned (.agg #[.int .i64 (apartR l a b).1, .int .i64 (apartR l a b).2.1, .int .i64 (apartR l a b).2.2]) ∧ Below w.heap.size w w' := by
  obtain ⟨w1, hw1⟩ : ∃ w1, w.alloc (.cells #[.int .i64 0, .int .i64 0, .int .i64 0] 62 (0, 0)) = w1 := ⟨_, rfl⟩
  have hb1 : Below w.heap.size w w1 := by rw [← hw1]; exact below_alloc (Below.refl _ _) _
  have hO1 : w1.heap[w.heap.size]? = some (.cells #[.int .i64 0, .int .i64 0, .int .i64 0] 62 (0, 0)) := by rw [← hw1]; exact heap_alloc_new _ _
  have hcall := refRec_calls A0 c0 l A1 c1 a w1 (Kd.C_below hC hb1) hc0 hlen (Kd.C_below hA hb1) hc1 hal
  rw [refR_eq] at hcall
  have hans := apart_G l a b
  obtain ⟨hml, hmw, hxl, -⟩ := recR_ok (l := l) (fr := a) hwf
  have hxg := recR_ge l a
  generalize recR l a = r at hcall hans hml hmw hxl hxg
  obtain ⟨m, x, q⟩ := r
  simp only at hans hml hmw hxl hxg
  obtain ⟨-, -, hyl, -⟩ := recR_ok (l := m) (fr := b) hmw
  have hyg := recR_ge m b
  have hcall2 : ∀ (W : World) (M : Option Addr) (cm : Nat), Below w.heap.size w W → k28.C W M m.length m → m.length ≤ cm → _ := fun W M cm hW hM hcm => refRec_calls M cm m A2 c2 b W hM hcm (by omega) (Kd.C_below hB hW) hc2 hbl
  rw [refR_eq] at hcall2
  generalize recR m b = s at hcall2 hans hyl hyg
  obtain ⟨m2, y, q2⟩ := s
  simp only at hans hyl hyg
  replace hcall := Aside0.mk hcall
  replace hcall2 := Lib.hid hcall2
  replace hans := Lib.hid hans
  replace hxg := Lib.hid hxg
  replace hyg := Lib.hid hyg
  have hfin : ∀ (W W' : World) (i j k : Int), apartR l a b = (i, j, k) → Below w.heap.size w W → W.grownBy W' (some w.heap.size) → W.heap.size = W'.heap.size → (Ending.returned (.agg #[.int .i64 i, .int .i64 j, .int .i64 k]) = .returned (.agg #[.int .i64 (apartR l a b).1, .int .i64 (apartR l a b).2.1, .int .i64 (apartR l a b).2.2])) ∧ Below w.heap.size w W' := fun W W' i j k h hW hg _ => by
    rw [h]; exact ⟨rfl, hW.grown hg hW.size (fun k hk => by injection hk; omega)⟩
  replace hfin := Lib.hid hfin
  clear hC hA hB hwf hmw
  go_enter Try.func39, Try.ntmps39
  go_wp2_with fail
  refine hcall.out.mono ?_; rintro e_ w2 ⟨⟨v_, rfl, M, cm, X, cx, rfl, hcm, hcx, hCM, hCX⟩, hb2⟩
  simp only at hcm hcx hCM hCX
  obtain ⟨w3, hw3⟩ : ∃ w3, w2.alloc (.cells #[.slice none 0 0, .slice none 0 0, .int .i64 0] 56 (0, 0)) = w3 := ⟨_, rfl⟩
  have hb3 : Below w2.heap.size w2 w3 := by rw [← hw3]; exact below_alloc (Below.refl _ _) _
  have hK3 : w3.heap[w2.heap.size]? = some (.cells #[.slice none 0 0, .slice none 0 0, .int .i64 0] 56 (0, 0)) := by rw [← hw3]; exact heap_alloc_new _ _
  have hO2 := (hb2.block _ (blk_lt hO1)).trans hO1
  have hO3 := (hb3.block _ (blk_lt hO2)).trans hO2
  have hB2 := below_step hb1 hb2
  have hgl : w.heap.size < w2.heap.size := blk_lt hO2
  obtain ⟨g, hg⟩ : ∃ g, w2.heap.size = g := ⟨_, rfl⟩
  rw [hg] at hK3 hgl
  clear hcall
  by_cases h0 : q = 0
  · subst h0
    go_wp2_with ((with_reducible refine gate_store (t := 56) (p := 7) rfl ?_); go_loud (refine wpList_storeBox rfl rfl 56 (.tmp 7) (.tmp 13) rfl (.agg #[.slice M m.length cm, .slice X x.length cx, .int .i64 0]) [.slice M m.length cm, .slice X x.length cx, .int .i64 0] rfl rfl rfl (by kernel_rfl) (by simp [Value.oneCell']) hK3 rfl ?_; intro w4 hK4 hg4 hs4; have hb24 : Below w2.heap.size w2 w4 := hb3.grown hg4 hb3.size (fun k hk => by injection hk; omega); have hB4 := below_step hB2 hb24; have hO4 := (hg4.block _ (blk_lt hO3) (by simp; omega)).trans hO3; obtain ⟨x0, x1, x2⟩ := box3 hK4; have hcall := Aside0.mk (hcall2.out w4 M cm hB4 (Kd.C_below hCM hb24) hcm)))
    refine hcall.out.mono ?_; rintro e_ w5 ⟨⟨v_, rfl, M', cm', Y, cy, rfl, hcm', hcy, hCM', hCY⟩, hb5⟩
    simp only at hcm' hcy hCM' hCY
    obtain ⟨w6, hw6⟩ : ∃ w6, w5.alloc (.cells #[.slice none 0 0, .slice none 0 0, .int .i64 0] 56 (0, 0)) = w6 := ⟨_, rfl⟩
    have hb6 : Below w5.heap.size w5 w6 := by rw [← hw6]; exact below_alloc (Below.refl _ _) _
    have hK6 : w6.heap[w5.heap.size]? = some (.cells #[.slice none 0 0, .slice none 0 0, .int .i64 0] 56 (0, 0)) := by rw [← hw6]; exact heap_alloc_new _ _
    have hK5 := (hb5.block _ (blk_lt hK4)).trans hK4
    have hO5 := (hb5.block _ (blk_lt hO4)).trans hO4
    have hB5 := below_step hB4 hb5
    have hCX5 := Kd.C_below (Kd.C_below hCX hb24) hb5
    have hO6 := (hb6.block _ (blk_lt hO5)).trans hO5
    have hL6 := (hb6.block _ (blk_lt hK5)).trans hK5
    have hgk : g < w5.heap.size := blk_lt hK5
    obtain ⟨k, hk⟩ : ∃ k, w5.heap.size = k := ⟨_, rfl⟩
    rw [hk] at hK6 hgk
    clear hcall hcall2 x0 x1 x2 hO4 hK4 hB4 hb24 hg4 hs4 hCX hCM hO3 hK3 hb3 hw3 hb5 hO2 hB2 hb2 hO1 hb1 hK5 hO5
    by_cases h2 : q2 = 0
    · subst h2
      by_cases hne : (x.length : Int) = y.length
      · have hxy : x.length = y.length := by omega
        have hfind : Hid (∀ o, apFind x y = o → apartR l a b = match o with
          | some (m, n) => ((m : Int), (n : Int), 0)
          | none => (0, 0, 9)) := Lib.hid fun o h => by
            rw [hans.out]
            unfold apG
            dsimp only
            rw [if_pos rfl, if_pos rfl, if_pos hxy, h]
        have hnn : (x.length == y.length) = true := beq_iff_eq.2 hxy
        replace hxy := Lib.hid hxy
        go_wp2_with (first | ((with_reducible refine gate_store (t := 56) (p := 8) rfl ?_); go_loud (refine wpList_storeBox rfl rfl 56 (.tmp 8) (.tmp 23) rfl (.agg #[.slice M' m2.length cm', .slice Y y.length cy, .int .i64 0]) [.slice M' m2.length cm', .slice Y y.length cy, .int .i64 0] rfl rfl rfl (by kernel_rfl) (by simp [Value.oneCell']) hK6 rfl ?_; intro w7 hK7 hg7 hs7; have hb57 : Below w5.heap.size w5 w7 := hb6.grown hg7 hb6.size (fun j hj => by injection hj; omega); have hB7 := below_step hB5 hb57; have hO7 := (hg7.block _ (blk_lt hO6) (by simp; omega)).trans hO6; have hL7 := (hg7.block _ (blk_lt hL6) (by simp; omega)).trans hL6; obtain ⟨x0, x1, x2⟩ := box3 hL7; obtain ⟨y0, y1, y2⟩ := box3 hK7)))
        have hst : Hid (apFind x y = firstN (apRow x y) (x.length - 0) 0) := Lib.hid rfl
        have hCX7 := Aside0.mk (Kd.C_below hCX5 hb57)
        have hCY7 := Aside0.mk (Kd.C_below hCY hb57)
        clear hb57 hCX5 hCY x0 x1 x2 y0 y1 y2 hans hK6 hL6 hO6 hb6 hw6 hg7 hs7 hB5
        go_loopw [41] (fun v wr => ∃ n : Nat, n ≤ x.length ∧ v = .int .i64 (n : Int) ∧ Hid (apFind x y = firstN (apRow x y) (x.length - n) n) ∧ Below w7.heap.size w7 wr) (fun v _ => x.length - (intOf v).toNat)
        case atStart => exact ⟨0, by omega, rfl, hst, Below.refl _ _⟩
        case round =>
          clear hst
          obtain ⟨n, hn, rfl, hap, hB⟩ := hrel
          by_cases hlt : (n : Int) < x.length
          · have hap2 : Hid (apRow x y n = firstN (apCell x y n) (n + 1 - 0) 0) := Lib.hid rfl
            have hlt3 : n < y.length := by have := hxy.out; omega
            have hlt4 : decide (n < y.length) = true := decide_eq_true hlt3
            go_wp2_with fail
            go_loopw [10] (fun v wx => ∃ m : Nat, m ≤ n + 1 ∧ v = .int .i64 (m : Int) ∧ Hid (apRow x y n = firstN (apCell x y n) (n + 1 - m) m) ∧ Below w7.heap.size w7 wx) (fun v _ => n + 1 - (intOf v).toNat)
            case atStart => exact ⟨0, by omega, rfl, hap2, hB⟩
            case round =>
              clear hap2 hB
              obtain ⟨i, hi, rfl, hap2, hB⟩ := hrel
              have hBw := below_step hB7 hB
              by_cases hlt2 : (i : Int) ≤ n
              · have hK8 := (hB.block _ (blk_lt hK7)).trans hK7
                have hL8 := (hB.block _ (blk_lt hL7)).trans hL7
                have hO8 := (hB.block _ (blk_lt hO7)).trans hO7
                obtain ⟨x0, x1, x2⟩ := box3 hL8
                obtain ⟨y0, y1, y2⟩ := box3 hK8
                have htell := demurralref22_tells.calls X cx x Y cy y (i : Int) (n : Int) _ wr (Kd.C_below hCX7.out hB) hcx (Kd.C_below hCY7.out hB) hcy (tells_f x y i n (by omega) (by omega) hxy.out hxg.out hyg.out)
                cases hbb : apB x y i n with
                | false =>
                  rw [hbb] at htell
                  have hno : Hid (apRow x y n = firstN (apCell x y n) (n + 1 - (i + 1)) (i + 1)) := Lib.hid (by rw [hap2.out, show n + 1 - i = (n + 1 - (i + 1)) + 1 by omega]; exact firstN_none (by unfold apCell; rw [hbb]; rfl))
                  replace htell := Aside0.mk htell
                  clear hap2
                  go_wp2_with fail
                  refine htell.out.mono ?_; rintro e_ w9 ⟨rfl, hb9⟩
                  have hB9 := Aside0.mk (below_step hB hb9.below)
                  clear htell hb9
                  go_wp2
                  go_roundw
                  case rel => exact ⟨i + 1, by omega, by go_num, hno, hB9.out⟩
                  case measure => simp [intOf]; omega
                | true =>
                  rw [hbb] at htell
                  have hyes : apartR l a b = ((i : Int), (n : Int), 0) := hfind.out (some (i, n)) (by
                    rw [hap.out, show x.length - n = (x.length - n - 1) + 1 by omega]
                    exact firstN_some (by rw [hap2.out, show n + 1 - i = (n - i) + 1 by omega]; exact firstN_some (by unfold apCell; rw [hbb]; rfl)))
                  replace hyes := Lib.hid hyes
                  replace htell := Aside0.mk htell
                  clear hap2 hap hfind
                  go_wp2_with fail
                  refine htell.out.mono ?_; rintro e_ w9 ⟨rfl, hb9⟩
                  have hB9 := below_step hBw hb9.below
                  have hO9 := (hb9.below.block _ (blk_lt hO8)).trans hO8
                  clear htell hb9
                  go_wp2_with (first | ((with_reducible refine gate_store (t := 62) (p := 6) rfl ?_); go_loud (refine wpList_storeBox rfl rfl 62 (.tmp 6) (.tmp 58) rfl (.agg #[.int .i64 (i : Int), .int .i64 (n : Int), .int .i64 0]) [.int .i64 (i : Int), .int .i64 (n : Int), .int .i64 0] rfl rfl rfl (by kernel_rfl) (by simp [Value.oneCell']) hO9 rfl ?_; intro z1 hZ hgz hsz)))
                  refine bodyPost_ret (results_cell_row rfl _ _ w.heap.size 62 _ (0, 0) _ rfl hZ Try.underlying62 rfl (by kernel_rfl)) rfl ?_
                  exact hfin.out _ _ _ _ _ hyes.out hB9 hgz hsz.symm
              · obtain rfl : i = n + 1 := by omega
                have hno : Hid (apFind x y = firstN (apRow x y) (x.length - (n + 1)) (n + 1)) := Lib.hid (by
                  rw [hap.out, show x.length - n = (x.length - (n + 1)) + 1 by omega]
                  exact firstN_none (by rw [hap2.out, Nat.sub_self]; rfl))
                replace hB := Aside0.mk hB
                clear hap2 hap
                go_wp2
                go_roundw
                case rel => exact ⟨n + 1, by omega, by go_num, hno, hB.out⟩
                case measure => simp [intOf]; omega
          · obtain rfl : n = x.length := by omega
            have hno : Hid (apartR l a b = (0, 0, 9)) := Lib.hid (hfind.out none (by rw [hap.out, Nat.sub_self]; rfl))
            have hBw := below_step hB7 hB
            have hO8 := (hB.block _ (blk_lt hO7)).trans hO7
            clear hap hfind
            go_wp2_with (first | ((with_reducible refine gate_store (t := 62) (p := 6) rfl ?_); go_loud (refine wpList_storeBox rfl rfl 62 (.tmp 6) (.tmp 60) rfl (.agg #[.int .i64 0, .int .i64 0, .int .i64 9]) [.int .i64 0, .int .i64 0, .int .i64 9] rfl rfl rfl (by kernel_rfl) (by simp [Value.oneCell']) hO8 rfl ?_; intro z1 hZ hgz hsz)))
            refine bodyPost_ret (results_cell_row rfl _ _ w.heap.size 62 _ (0, 0) _ rfl hZ Try.underlying62 rfl (by kernel_rfl)) rfl ?_
            exact hfin.out _ _ _ _ _ hno.out hBw hgz hsz.symm
      · have hap : Hid (apartR l a b = (0, 0, 2)) := Lib.hid (by
          rw [hans.out]
          unfold apG
          dsimp only
          rw [if_pos rfl, if_pos rfl, if_neg (fun h => hne (by omega))])
        have hnn : (x.length == y.length) = false := beq_eq_false_iff_ne.2 (fun h => hne (by omega))
        clear hans
        go_wp2_with (first | ((with_reducible refine gate_store (t := 56) (p := 8) rfl ?_); go_loud (refine wpList_storeBox rfl rfl 56 (.tmp 8) (.tmp 23) rfl (.agg #[.slice M' m2.length cm', .slice Y y.length cy, .int .i64 0]) [.slice M' m2.length cm', .slice Y y.length cy, .int .i64 0] rfl rfl rfl (by kernel_rfl) (by simp [Value.oneCell']) hK6 rfl ?_; intro w7 hK7 hg7 hs7; have hb57 : Below w5.heap.size w5 w7 := hb6.grown hg7 hb6.size (fun j hj => by injection hj; omega); have hB7 := below_step hB5 hb57; have hO7 := (hg7.block _ (blk_lt hO6) (by simp; omega)).trans hO6; have hL7 := (hg7.block _ (blk_lt hL6) (by simp; omega)).trans hL6; obtain ⟨x0, x1, x2⟩ := box3 hL7; obtain ⟨y0, y1, y2⟩ := box3 hK7)) | ((with_reducible refine gate_store (t := 62) (p := 6) rfl ?_); go_loud (refine wpList_storeBox rfl rfl 62 (.tmp 6) (.tmp 37) rfl (.agg #[.int .i64 0, .int .i64 0, .int .i64 2]) [.int .i64 0, .int .i64 0, .int .i64 2] rfl rfl rfl (by kernel_rfl) (by simp [Value.oneCell']) hO7 rfl ?_; intro z1 hZ hgz hsz)))
        refine bodyPost_ret (results_cell_row rfl _ _ w.heap.size 62 _ (0, 0) _ rfl hZ Try.underlying62 rfl (by kernel_rfl)) rfl ?_
        exact hfin.out _ _ _ _ _ hap.out hB7 hgz hsz.symm
    · have hap : Hid (apartR l a b = (0, 0, q2)) := Lib.hid (by
        rw [hans.out]
        unfold apG
        dsimp only
        rw [if_pos rfl, if_neg h2])
      clear hans
      go_wp2_with (first | ((with_reducible refine gate_store (t := 56) (p := 8) rfl ?_); go_loud (refine wpList_storeBox rfl rfl 56 (.tmp 8) (.tmp 23) rfl (.agg #[.slice M' m2.length cm', .slice Y y.length cy, .int .i64 q2]) [.slice M' m2.length cm', .slice Y y.length cy, .int .i64 q2] rfl rfl rfl (by kernel_rfl) (by simp [Value.oneCell']) hK6 rfl ?_; intro w7 hK7 hg7 hs7; have hb57 : Below w5.heap.size w5 w7 := hb6.grown hg7 hb6.size (fun j hj => by injection hj; omega); have hB7 := below_step hB5 hb57; have hO7 := (hg7.block _ (blk_lt hO6) (by simp; omega)).trans hO6; have hL7 := (hg7.block _ (blk_lt hL6) (by simp; omega)).trans hL6; obtain ⟨x0, x1, x2⟩ := box3 hL7; obtain ⟨y0, y1, y2⟩ := box3 hK7)) | ((with_reducible refine gate_store (t := 62) (p := 6) rfl ?_); go_loud (refine wpList_storeBox rfl rfl 62 (.tmp 6) (.tmp 29) rfl (.agg #[.int .i64 0, .int .i64 0, .int .i64 q2]) [.int .i64 0, .int .i64 0, .int .i64 q2] rfl rfl rfl (by kernel_rfl) (by simp [Value.oneCell']) hO7 rfl ?_; intro z1 hZ hgz hsz)))
      refine bodyPost_ret (results_cell_row rfl _ _ w.heap.size 62 _ (0, 0) _ rfl hZ Try.underlying62 rfl (by kernel_rfl)) rfl ?_
      exact hfin.out _ _ _ _ _ hap.out hB7 hgz hsz.symm
  · have hap : apartR l a b = (0, 0, q) := by
      rw [hans.out]
      unfold apG
      dsimp only
      rw [if_neg h0]
    go_wp2_with (first | ((with_reducible refine gate_store (t := 56) (p := 7) rfl ?_); go_loud (refine wpList_storeBox rfl rfl 56 (.tmp 7) (.tmp 13) rfl (.agg #[.slice M m.length cm, .slice X x.length cx, .int .i64 q]) [.slice M m.length cm, .slice X x.length cx, .int .i64 q] rfl rfl rfl (by kernel_rfl) (by simp [Value.oneCell']) hK3 rfl ?_; intro w4 hK4 hg4 hs4; have hB4 := (below_step hB2 hb3).grown hg4 (below_step hB2 hb3).size (fun k hk => by injection hk; omega); have hO4 := (hg4.block _ (blk_lt hO3) (by simp; omega)).trans hO3; obtain ⟨x0, x1, x2⟩ := box3 hK4)) | ((with_reducible refine gate_store (t := 62) (p := 6) rfl ?_); go_loud (refine wpList_storeBox rfl rfl 62 (.tmp 6) (.tmp 19) rfl (.agg #[.int .i64 0, .int .i64 0, .int .i64 q]) [.int .i64 0, .int .i64 0, .int .i64 q] rfl rfl rfl (by kernel_rfl) (by simp [Value.oneCell']) hO4 rfl ?_; intro z1 hZ hgz hsz)))
    refine bodyPost_ret (results_cell_row rfl _ _ w.heap.size 62 _ (0, 0) _ rfl hZ Try.underlying62 rfl (by kernel_rfl)) rfl ?_
    exact hfin.out _ _ _ _ _ hap hB4 hgz hsz.symm
set_option maxHeartbeats 4000000 in
set_option maxRecDepth 100000 in
theorem tellsLaw_walk (A0 : Option Addr) (c0 : Nat) (l0 : List S28) (A1 : Option Addr) (c1 : Nat) (l1 : List Int) (A2 : Option Addr) (c2 : Nat) (l2 : List Int) (w : World) (hr0 : k28.C w A0 l0.length l0) (hc0 : l0.length ≤ c0) (hr1 : (Kd.int .i64).C w A1 l1.length l1) (hc1 : l1.length ≤ c1) (hr2 : (Kd.int .i64).C w A2 l2.length l2) (hc2 : l2.length ≤ c2) (g0 : good23 l0) (g1 : good33 l1) (g2 : good33 l2) :
    Calls Try.prog 9 #[.slice A0 l0.length c0, .slice A1 l1.length c1, .slice A2 l2.length c2] w fun e w' => e = .returned (.bool true) ∧ Below w.heap.size w w' := by
  have hfew := few22_calls A0 c0 l0 w hr0 hc0
  have hwf : ∀ t ∈ few22L l0, wfT t := fun t ht => wf_of_good g0 t (few22_mem ht)
  have hll := few22_len l0
  generalize few22L l0 = l at hfew hwf hll
  replace hwf := Lib.hid hwf
  replace hfew := Aside0.mk hfew
  replace hr1 := Aside0.mk hr1
  replace hr2 := Aside0.mk hr2
  clear hr0 g0 g1 g2
  go_enter Try.func9, Try.ntmps9
  go_wp2_with fail
  refine hfew.out.mono ?_; rintro e_ w1 ⟨⟨A, c, rfl, hc, hC⟩, hb1⟩
  have hcut := cut22_calls A1 c1 l1 w1 (Kd.C_below hr1.out hb1) hc1
  have hfl : (l1.take 7).length ≤ 7 := by rw [List.length_take]; omega
  generalize l1.take 7 = fr at hcut hfl
  replace hcut := Aside0.mk hcut
  replace hC := Aside0.mk hC
  clear hfew hr1
  go_wp2_with fail
  refine hcut.out.mono ?_; rintro e_ w2 ⟨⟨B, d, rfl, hd, hF⟩, hb2⟩
  have hB2 := below_step hb1 hb2
  have hcut2 := cut22_calls A2 c2 l2 w2 (Kd.C_below hr2.out hB2) hc2
  have hfm : (l2.take 7).length ≤ 7 := by rw [List.length_take]; omega
  generalize l2.take 7 = fs at hcut2 hfm
  replace hcut2 := Aside0.mk hcut2
  replace hF := Aside0.mk hF
  clear hcut hr2
  go_wp2_with fail
  refine hcut2.out.mono ?_; rintro e_ w3 ⟨⟨G, k, rfl, hk, hG⟩, hb3⟩
  have hC3 := Kd.C_below (Kd.C_below hC.out hb2) hb3
  have hF3 := Kd.C_below hF.out hb3
  have hB3 := below_step hB2 hb3
  have hst := static_calls A c l B d fr G k fs w3 hC3 hc (by omega) hwf.out hF3 hd (by omega) hG hk (by omega)
  have hap : ∀ W, Below w3.heap.size w3 W → _ := fun W hW => apart_calls A c l B d fr G k fs W (Kd.C_below hC3 hW) hc (by omega) hwf.out (Kd.C_below hF3 hW) hd (by omega) (Kd.C_below hG hW) hk (by omega)
  have href : ∀ W, Below w3.heap.size w3 W → _ := fun W hW => refApart_calls A c l B d fr G k fs W (Kd.C_below hC3 hW) hc (by omega) hwf.out (Kd.C_below hF3 hW) hd (by omega) (Kd.C_below hG hW) hk (by omega)
  have hq := apartR_q l fr fs hwf.out
  have hans : staticR l fr fs = if (apartR l fr fs).2.2 = 0 then (false, 0) else if (apartR l fr fs).2.2 = 9 then (true, 0) else (false, (apartR l fr fs).2.2) := rfl
  generalize staticR l fr fs = z at hst hans
  generalize apartR l fr fs = r at hap href hq hans
  obtain ⟨i, j, q⟩ := r
  simp only at hap href hq hans
  have hii : (i != i) = false := bne_self_eq_false i
  have hjj : (j != j) = false := bne_self_eq_false j
  replace hap := Lib.hid hap
  replace href := Lib.hid href
  have hal := Aside0.mk (fun W => alive22_calls W)
  clear hcut2 hC hC3 hF hF3 hG hb1 hb2 hb3 hB2
  rcases hq with rfl | rfl | rfl | rfl | rfl | rfl
  all_goals
    simp only [Int.reduceEq, if_true, if_false] at hans
    subst hans
    simp only at hst
    replace hst := Aside0.mk hst
    go_wp2_with fail
    refine hst.out.mono ?_; rintro e_ w4 ⟨rfl, hb4⟩
    have hcall := Aside0.mk (hap.out w4 hb4)
    clear hst hap
    go_wp2_with fail
    refine hcall.out.mono ?_; rintro e_ w5 ⟨rfl, hb5⟩
    have hb35 := below_step hb4 hb5
    have hcall2 := Aside0.mk (href.out w5 hb35)
    have hB5 := below_step hB3 hb35
    clear hcall href hb4 hb5 hB3
    go_wp2_with fail
    refine hcall2.out.mono ?_; rintro e_ w6 ⟨rfl, hb6⟩
    have hB6 := below_step hB5 hb6
    obtain ⟨w7, hw7⟩ : ∃ w7, w6.alloc (.cells #[.int .i64 0, .int .i64 0, .int .i64 0] 62 (0, 0)) = w7 := ⟨_, rfl⟩
    have hb7 : Below w6.heap.size w6 w7 := by rw [← hw7]; exact below_alloc (Below.refl _ _) _
    have hK7 : w7.heap[w6.heap.size]? = some (.cells #[.int .i64 0, .int .i64 0, .int .i64 0] 62 (0, 0)) := by rw [← hw7]; exact heap_alloc_new _ _
    clear hcall2 hB5 hb6
    go_wp2_with ((with_reducible refine gate_store (t := 62) (p := 12) rfl ?_); go_loud (refine wpList_storeBox rfl rfl 62 (.tmp 12) (.tmp 37) rfl (.agg #[.int .i64 _, .int .i64 _, .int .i64 _]) [.int .i64 _, .int .i64 _, .int .i64 _] rfl rfl rfl (by kernel_rfl) (by simp [Value.oneCell']) hK7 rfl ?_; intro w8 hK8 hg8 hs8; have hb68 : Below w6.heap.size w6 w8 := hb7.grown hg8 hb7.size (fun k hk => by injection hk; omega); have hB8 := below_step hB6 hb68; obtain ⟨x0, x1, x2⟩ := box3 hK8))
    refine (hal.out _).mono ?_; rintro e_ w9 ⟨rfl, hb9⟩
    have hB9 := Aside0.mk (below_step hB8 hb9)
    have hK9 := (hb9.block _ (blk_lt hK8)).trans hK8
    clear x0 x1 x2 hal
    obtain ⟨x0, x1, x2⟩ := box3 hK9
    clear hb9 hB8 hK8 hb68 hg8 hs8 hb7 hK7 hw7
    go_wp2
    go_ret
    exact ⟨rfl, hB9.out⟩
end Go.Proofs.Ytenmmeehgnkcpaa.Q
