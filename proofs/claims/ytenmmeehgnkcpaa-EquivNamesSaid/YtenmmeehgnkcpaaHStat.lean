/- equiv.both, Apart, Static: the first two recipes that tell two frames apart.
   Conditions: the list is read as terms whose numbers are of 64 bits. -/
import Derived.Test.YtenmmeehgnkcpaaHRecFn
namespace Go.Proofs.Ytenmmeehgnkcpaa.Q
open Go.RowKit Go.Proofs.YtenmmeehgnkcpaaW.PrintWords Go.Proofs.YtenmmeehgnkcpaaW.PrintLast Go.Proofs.YtenmmeehgnkcpaaW.PrintMore
set_option linter.unusedVariables false
set_option linter.unusedSimpArgs false

theorem recipes_calls (A0 : Option Addr) (c0 : Nat) (l : List S28) (A1 : Option Addr) (c1 : Nat) (fr : List Int) (w : World) (hC : k28.C w A0 l.length l) (hc0 : l.length ≤ c0) (hlen : l.length ≤ 1000000) (hwf : ∀ t ∈ l, wfT t)
    (hF : (Kd.int .i64).C w A1 fr.length fr) (hc1 : fr.length ≤ c1) (hfl : fr.length ≤ 1000000) :
    Calls Try.prog 34 #[.slice A0 l.length c0, .slice A1 fr.length c1] w fun e W' => RecE (recR l fr) e W' ∧ Below w.heap.size w W' :=
  callsIn_wide.1 (recipesFn_in A0 c0 l A1 c1 fr w hC hc0 hlen hwf hF hc1 hfl)
theorem recR_cases (l : List S28) (fr : List Int) : (recR l fr = ([], [], 1) ∧ rightB l = false) ∨ (recR l fr = ([], [], 2) ∧ rightB l = true ∧ (fr.length < 1 ∨ 5 < fr.length)) ∨
    (recR l fr = ([], [], 5) ∧ rightB l = true ∧ ¬ (fr.length < 1 ∨ 5 < fr.length) ∧ fr.all (inL l.length) = false) ∨
    (rightB l = true ∧ ¬ (fr.length < 1 ∨ 5 < fr.length) ∧ fr.all (inL l.length) = true ∧ ((recR l fr = ([], [], 6) ∧ (stL (l, false) (items l fr)).2 = true) ∨ (recR l fr = ((stL (l, false) (items l fr)).1, valsL (l, false) (items l fr), 0) ∧ (stL (l, false) (items l fr)).2 = false))) := by
  unfold recR
  cases hr : rightB l with
  | false => exact .inl ⟨rfl, rfl⟩
  | true =>
    by_cases h5 : fr.length < 1 ∨ 5 < fr.length
    · exact .inr (.inl ⟨by rw [if_pos rfl, if_pos h5], rfl, h5⟩)
    · cases ha : fr.all (inL l.length) with
      | false => exact .inr (.inr (.inl ⟨by rw [if_pos rfl, if_neg h5]; rfl, rfl, h5, rfl⟩))
      | true =>
        refine .inr (.inr (.inr ⟨rfl, h5, rfl, ?_⟩))
        rw [if_pos rfl, if_neg h5, if_pos rfl]
        cases hf : (stL (l, false) (items l fr)).2 with
        | true => exact .inl ⟨rfl, rfl⟩
        | false => exact .inr ⟨rfl, rfl⟩
theorem inL_all {l : List S28} {fr : List Int} (h : fr.all (inL l.length) = true) : ∀ x ∈ fr, 0 ≤ x ∧ x < l.length := fun x hx => by
  have h0 := List.all_eq_true.1 h x hx
  unfold inL at h0
  have := Bool.and_eq_true_iff.1 h0
  exact ⟨of_decide_eq_true this.1, of_decide_eq_true this.2⟩
theorem right_len {l : List S28} (h : rightB l = true) : l.length ≤ 400 := of_decide_eq_true (Bool.and_eq_true_iff.1 h).2
theorem recR_ok {l : List S28} {fr : List Int} (hwf : ∀ t ∈ l, wfT t) : (recR l fr).1.length ≤ 400 ∧ (∀ t ∈ (recR l fr).1, wfT t) ∧ (recR l fr).2.1.length ≤ 125 ∧ ((recR l fr).2.2 = 0 ∨ (recR l fr).2.2 = 1 ∨ (recR l fr).2.2 = 2 ∨ (recR l fr).2.2 = 5 ∨ (recR l fr).2.2 = 6) := by
  rcases recR_cases l fr with ⟨h, _⟩ | ⟨h, _⟩ | ⟨h, _⟩ | ⟨hr, h5, ha, ⟨h, _⟩ | ⟨h, _⟩⟩
  · rw [h]; exact ⟨by simp, by simp, by simp, .inr (.inl rfl)⟩
  · rw [h]; exact ⟨by simp, by simp, by simp, .inr (.inr (.inl rfl))⟩
  · rw [h]; exact ⟨by simp, by simp, by simp, .inr (.inr (.inr (.inl rfl)))⟩
  · rw [h]; exact ⟨by simp, by simp, by simp, .inr (.inr (.inr (.inr rfl)))⟩
  · rw [h]
    have hok := (stL_ok (items l fr) (s := (l, false)) ⟨right_len hr, hwf⟩ (items_ok (right_len hr) hwf (inL_all ha))).1
    refine ⟨hok.1, hok.2, ?_, .inl rfl⟩
    show (valsL (l, false) (items l fr)).length ≤ 125
    rw [valsL_len, items_len]
    have : fr.length * (fr.length * 4) ≤ 5 * (5 * 4) := Nat.mul_le_mul (by omega) (Nat.mul_le_mul (by omega) (Nat.le_refl _))
    omega
/-- Two frames' recipes, or why there are none. -/
def bothR (l : List S28) (a b : List Int) : List Int × List Int × Int :=
  if (recR l a).2.2 = 0 then ((recR l a).2.1, (recR (recR l a).1 b).2.1, if (recR (recR l a).1 b).2.2 = 0 ∧ (recR l a).2.1.length ≠ (recR (recR l a).1 b).2.1.length then 2 else (recR (recR l a).1 b).2.2)
  else ([], [], (recR l a).2.2)
theorem both_eq (l : List S28) (a b : List Int) (r : List S28 × List Int × Int) (h : recR l a = r) : bothR l a b = if r.2.2 = 0 then (r.2.1, (recR r.1 b).2.1, if (recR r.1 b).2.2 = 0 ∧ r.2.1.length ≠ (recR r.1 b).2.1.length then 2 else (recR r.1 b).2.2) else ([], [], r.2.2) := by
  subst h
  rfl
def TwoE (r : List Int × List Int × Int) (e : Ending) (W : World) : Prop := ∃ A c B d, e = .returned (.tuple #[.slice A r.1.length c, .slice B r.2.1.length d, .int .i64 r.2.2]) ∧ r.1.length ≤ c ∧ r.2.1.length ≤ d ∧ (Kd.int .i64).C W A r.1.length r.1 ∧ (Kd.int .i64).C W B r.2.1.length r.2.1
set_option maxRecDepth 100000 in
set_option maxHeartbeats 2000000 in
theorem both_calls (A0 : Option Addr) (c0 : Nat) (l : List S28) (A1 : Option Addr) (c1 : Nat) (a : List Int) (A2 : Option Addr) (c2 : Nat) (b : List Int) (w : World) (hC : k28.C w A0 l.length l) (hc0 : l.length ≤ c0) (hlen : l.length ≤ 1000000) (hwf : ∀ t ∈ l, wfT t)
    (hA : (Kd.int .i64).C w A1 a.length a) (hc1 : a.length ≤ c1) (hal : a.length ≤ 1000000) (hB : (Kd.int .i64).C w A2 b.length b) (hc2 : b.length ≤ c2) (hbl : b.length ≤ 1000000) :
    Calls Try.prog 59 #[.slice A0 l.length c0, .slice A1 a.length c1, .slice A2 b.length c2] w fun e W' => TwoE (bothR l a b) e W' ∧ Below w.heap.size w W' := by
  have h1 := Aside0.mk (recipes_calls A0 c0 l A1 c1 a w hC hc0 hlen hwf hA hc1 hal)
  have hans := both_eq l a b _ rfl
  obtain ⟨hm, hmw, hxl, hq⟩ := recR_ok (l := l) (fr := a) hwf
  generalize recR l a = r at h1 hans hm hmw hxl hq
  obtain ⟨m, x, q⟩ := r
  simp only at hans hm hmw hxl hq
  replace hans := Lib.hid hans
  replace hmw := Lib.hid hmw
  replace hB := Aside0.mk hB
  clear hC hA hwf
  go_enter Try.func59, Try.ntmps59
  go_wp2_with fail
  refine h1.out.mono ?_; rintro e_ w1 ⟨⟨A, c, B, d, rfl, hc, hd, hCm, hCx⟩, hb1⟩
  replace hb1 := Aside0.mk hb1
  replace hCm := Aside0.mk hCm
  replace hCx := Aside0.mk hCx
  simp only at hc hd hCm hCx
  clear h1
  by_cases h0 : q = 0
  · subst h0
    have h2 := recipes_calls A c m A2 c2 b w1 hCm.out hc (by omega) hmw.out (Kd.C_below hB.out hb1.out) hc2 hbl
    have hans2 := hans.out
    rw [if_pos rfl] at hans2
    obtain ⟨-, -, hyl, hq2⟩ := recR_ok (l := m) (fr := b) hmw.out
    generalize recR m b = r2 at h2 hans2 hyl hq2
    obtain ⟨m2, y, q2⟩ := r2
    simp only at hans2 hyl hq2
    replace h2 := Aside0.mk h2
    replace hans2 := Lib.hid hans2
    clear hans hq hmw hCm
    go_wp2_with fail
    refine h2.out.mono ?_; rintro e_ w2 ⟨⟨A', c', B', d', rfl, hc', hd', -, hCy⟩, hb2⟩
    have hB2 := Aside0.mk (below_step hb1.out hb2)
    replace hCx := Aside0.mk (Kd.C_below hCx.out hb2)
    replace hCy := Aside0.mk hCy
    simp only at hc' hd' hCy
    clear h2 hb1 hb2 hB
    have hfin : ∀ W : World, ∀ q' : Int, bothR l a b = (x, y, q') → (Kd.int .i64).C W B x.length x → (Kd.int .i64).C W B' y.length y → TwoE (bothR l a b) (.returned (.tuple #[.slice B x.length d, .slice B' y.length d', .int .i64 q'])) W := fun W q' h hx hy => by
      rw [h]; exact ⟨B, d, B', d', rfl, hd, hd', hx, hy⟩
    replace hfin := Lib.hid hfin
    by_cases h0 : q2 = 0
    · subst h0
      by_cases hne : (x.length : Int) = y.length
      · have hn2 : x.length = y.length := by omega
        have hfin2 := fun W hx hy => hfin.out W 0 (hans2.out.trans (by rw [if_neg (by simp [hn2])])) hx hy
        replace hfin2 := Lib.hid hfin2
        clear hans2 hfin hn2
        go_wp2
        go_ret3
        exact ⟨hfin2.out _ hCx.out hCy.out, hB2.out⟩
      · have hn2 : x.length ≠ y.length := by omega
        have hfin2 := fun W hx hy => hfin.out W 2 (hans2.out.trans (by rw [if_pos ⟨rfl, hn2⟩])) hx hy
        replace hfin2 := Lib.hid hfin2
        clear hans2 hfin
        go_wp2
        go_ret3
        exact ⟨hfin2.out _ hCx.out hCy.out, hB2.out⟩
    · have hfin2 := fun W hx hy => hfin.out W q2 (hans2.out.trans (by rw [if_neg (fun h => h0 h.1)])) hx hy
      replace hfin2 := Lib.hid hfin2
      clear hans2 hfin hq2
      go_wp2
      go_ret3
      exact ⟨hfin2.out _ hCx.out hCy.out, hB2.out⟩
  · have hans2 : Hid (bothR l a b = ([], [], q)) := Lib.hid (hans.out.trans (if_neg h0))
    clear hans hq hmw hCm hCx hc hd
    go_wp2
    go_ret3
    rw [hans2.out]
    exact ⟨⟨none, 0, none, 0, rfl, Nat.le_refl _, Nat.le_refl _, Kd.C_nil _ _, Kd.C_nil _ _⟩, hb1.out⟩
/-- The first place, from one on, at which something is found. -/
def firstN {α : Type} (p : Nat → Option α) : Nat → Nat → Option α
  | 0, _ => none
  | k + 1, i => match p i with
    | some a => some a
    | none => firstN p k (i + 1)
theorem firstN_none {α : Type} {p : Nat → Option α} {k i : Nat} (h : p i = none) : firstN p (k + 1) i = firstN p k (i + 1) := by simp [firstN, h]
theorem firstN_some {α : Type} {p : Nat → Option α} {k i : Nat} {a : α} (h : p i = some a) : firstN p (k + 1) i = some a := by simp [firstN, h]
def apB (x y : List Int) (m n : Nat) : Bool := if m = n then ((rd x (n : Int) == -1) != (rd y (n : Int) == -1)) else ((rd x (m : Int) == rd x (n : Int)) != (rd y (m : Int) == rd y (n : Int)))
def apCell (x y : List Int) (n m : Nat) : Option (Nat × Nat) := if apB x y m n = true then some (m, n) else none
def apRow (x y : List Int) (n : Nat) : Option (Nat × Nat) := firstN (apCell x y n) (n + 1) 0
def apFind (x y : List Int) : Option (Nat × Nat) := firstN (apRow x y) x.length 0
def apartV (r : List Int × List Int × Int) : Int × Int × Int := if r.2.2 = 0 then (match apFind r.1 r.2.1 with
    | some (m, n) => ((m : Int), (n : Int), 0)
    | none => (0, 0, 9)) else (0, 0, r.2.2)
/-- The first two recipes that tell two frames apart. -/
def apartR (l : List S28) (a b : List Int) : Int × Int × Int := apartV (bothR l a b)
theorem bothR_len (l : List S28) (a b : List Int) (hwf : ∀ t ∈ l, wfT t) : (bothR l a b).1.length ≤ 125 ∧ (bothR l a b).2.1.length ≤ 125 ∧ ((bothR l a b).2.2 = 0 → (bothR l a b).1.length = (bothR l a b).2.1.length) ∧ ((bothR l a b).2.2 = 0 ∨ (bothR l a b).2.2 = 1 ∨ (bothR l a b).2.2 = 2 ∨ (bothR l a b).2.2 = 5 ∨ (bothR l a b).2.2 = 6) := by
  have h1 := recR_ok (l := l) (fr := a) hwf
  have h2 := recR_ok (l := (recR l a).1) (fr := b) h1.2.1
  rw [both_eq l a b _ rfl]
  by_cases h0 : (recR l a).2.2 = 0
  · rw [if_pos h0]
    refine ⟨h1.2.2.1, h2.2.2.1, fun h => ?_, ?_⟩
    · simp only at h ⊢
      by_cases hne : (recR l a).2.1.length = (recR (recR l a).1 b).2.1.length
      · exact hne
      · by_cases h3 : (recR (recR l a).1 b).2.2 = 0
        · rw [if_pos ⟨h3, hne⟩] at h
          cases h
        · rw [if_neg (fun h => h3 h.1)] at h
          exact absurd h h3
    · simp only
      split
      · exact .inr (.inr (.inl rfl))
      · exact h2.2.2.2
  · rw [if_neg h0]
    exact ⟨by simp, by simp, fun h => absurd h h0, h1.2.2.2⟩
set_option maxRecDepth 100000 in
set_option maxHeartbeats 4000000 in
theorem apart_calls (A0 : Option Addr) (c0 : Nat) (l : List S28) (A1 : Option Addr) (c1 : Nat) (a : List Int) (A2 : Option Addr) (c2 : Nat) (b : List Int) (w : World) (hC : k28.C w A0 l.length l) (hc0 : l.length ≤ c0) (hlen : l.length ≤ 1000000) (hwf : ∀ t ∈ l, wfT t)
    (hA : (Kd.int .i64).C w A1 a.length a) (hc1 : a.length ≤ c1) (hal : a.length ≤ 1000000) (hB : (Kd.int .i64).C w A2 b.length b) (hc2 : b.length ≤ c2) (hbl : b.length ≤ 1000000) :
    Calls Try.prog 38 #[.slice A0 l.length c0, .slice A1 a.length c1, .slice A2 b.length c2] w fun e W' => e = .returned (.tuple #[.int .i64 (apartR l a b).1, .int .i64 (apartR l a b).2.1, .int .i64 (apartR l a b).2.2]) ∧ Below w.heap.size w W' := by
  have h1 := Aside0.mk (both_calls A0 c0 l A1 c1 a A2 c2 b w hC hc0 hlen hwf hA hc1 hal hB hc2 hbl)
  have hans : apartR l a b = apartV (bothR l a b) := rfl
  obtain ⟨hxl, hyl, hxy, hq⟩ := bothR_len l a b hwf
  generalize bothR l a b = r at h1 hans hxl hyl hxy hq
  obtain ⟨x, y, q⟩ := r
  simp only at hxl hyl hxy hq
  clear hC hA hB hwf
  go_enter Try.func38, Try.ntmps38
  go_wp2_with fail
  refine h1.out.mono ?_; rintro e_ w1 ⟨⟨A, c, B, d, rfl, hc, hd, hCx, hCy⟩, hb1⟩
  simp only at hc hd hCx hCy
  replace hb1 := Aside0.mk hb1
  replace hCx := Aside0.mk hCx
  replace hCy := Aside0.mk hCy
  clear h1
  by_cases h0 : q = 0
  · subst h0
    have hxy' := hxy rfl
    have hfin : Hid (∀ o, apFind x y = o → apartR l a b = match o with
        | some (m, n) => ((m : Int), (n : Int), 0)
        | none => (0, 0, 9)) := Lib.hid fun o h => by rw [hans]; unfold apartV; rw [if_pos rfl, h]
    clear hans hq hxy
    go_wp2_with fail
    go_loopw [27] (fun v wr => ∃ n : Nat, n ≤ x.length ∧ v = .int .i64 (n : Int) ∧ Hid (apFind x y = firstN (apRow x y) (x.length - n) n) ∧ Below w1.heap.size w1 wr) (fun v _ => x.length - (intOf v).toNat)
    case atStart => exact ⟨0, by omega, rfl, Lib.hid rfl, Below.refl _ _⟩
    case round =>
      obtain ⟨n, hn, rfl, hap, hB⟩ := hrel
      by_cases hlt : (n : Int) < x.length
      · have hap2 : Hid (apRow x y n = firstN (apCell x y n) (n + 1 - 0) 0) := Lib.hid rfl
        go_wp2_with fail
        go_loopw [31] (fun v wx => ∃ m : Nat, m ≤ n ∧ v = .int .i64 (m : Int) ∧ Hid (apRow x y n = firstN (apCell x y n) (n + 1 - m) m) ∧ Below w1.heap.size w1 wx) (fun v _ => n - (intOf v).toNat)
        case atStart => exact ⟨0, by omega, rfl, hap2, hB⟩
        case round =>
          clear hap2 hB
          obtain ⟨m, hm, rfl, hap2, hB⟩ := hrel
          have hCx' := Kd.C_below hCx.out hB
          have hCy' := Kd.C_below hCy.out hB
          have hBw := Aside0.mk (hb1.out.trans (hB.mono hb1.out.size))
          replace hB := Aside0.mk hB
          by_cases hlt2 : (m : Int) < n
          · obtain ⟨ax, rfl, x1⟩ := Kd.at_int hCx' (m : Int) (by omega) (by omega)
            obtain ⟨ax', e1, x2⟩ := Kd.at_int hCx' (n : Int) (by omega) (by omega)
            injection e1 with e1
            subst e1
            obtain ⟨ay, rfl, y1⟩ := Kd.at_int hCy' (m : Int) (by omega) (by omega)
            obtain ⟨ay', e1, y2⟩ := Kd.at_int hCy' (n : Int) (by omega) (by omega)
            injection e1 with e1
            subst e1
            rw [Int.toNat_natCast] at x1 x2 y1 y2
            have hcell : apB x y m n = ((rd x (m : Int) == rd x (n : Int)) != (rd y (m : Int) == rd y (n : Int))) := by unfold apB; rw [if_neg (by omega)]
            generalize rd x (m : Int) = xm at x1 hcell
            generalize rd x (n : Int) = xn at x2 hcell
            generalize rd y (m : Int) = ym at y1 hcell
            generalize rd y (n : Int) = yn at y2 hcell
            cases hp : (xm == xn) <;> cases hr : (ym == yn)
            · have hno : Hid (apRow x y n = firstN (apCell x y n) (n + 1 - (m + 1)) (m + 1)) := Lib.hid (by rw [hap2.out, show n + 1 - m = (n + 1 - (m + 1)) + 1 by omega]; exact firstN_none (by unfold apCell; rw [hcell, hp, hr]; rfl))
              clear hcell hap2
              go_wp2
              go_quiet (fail)
              go_wp2
              go_roundw
              case rel => exact ⟨m + 1, by omega, by go_num, hno, hB.out.trans ((Drawn0.mk ⟨_, rfl⟩).below.mono hB.out.size)⟩
              case measure => simp [intOf]; omega
            · have hyes : Hid (apartR l a b = ((m : Int), (n : Int), 0)) := Lib.hid (hfin.out (some (m, n)) (by
                rw [hap.out, show x.length - n = (x.length - n - 1) + 1 by omega]
                exact firstN_some (by rw [hap2.out, show n + 1 - m = (n - m) + 1 by omega]; exact firstN_some (by unfold apCell; rw [hcell, hp, hr]; rfl))))
              clear hcell hap2 hap hfin
              go_wp2
              go_quiet (fail)
              go_wp2
              go_ret3
              rw [hyes.out]
              exact ⟨rfl, hBw.out.trans ((Drawn0.mk ⟨_, rfl⟩).below.mono hBw.out.size)⟩
            · have hyes : Hid (apartR l a b = ((m : Int), (n : Int), 0)) := Lib.hid (hfin.out (some (m, n)) (by
                rw [hap.out, show x.length - n = (x.length - n - 1) + 1 by omega]
                exact firstN_some (by rw [hap2.out, show n + 1 - m = (n - m) + 1 by omega]; exact firstN_some (by unfold apCell; rw [hcell, hp, hr]; rfl))))
              clear hcell hap2 hap hfin
              go_wp2
              go_quiet (fail)
              go_wp2
              go_ret3
              rw [hyes.out]
              exact ⟨rfl, hBw.out.trans ((Drawn0.mk ⟨_, rfl⟩).below.mono hBw.out.size)⟩
            · have hno : Hid (apRow x y n = firstN (apCell x y n) (n + 1 - (m + 1)) (m + 1)) := Lib.hid (by rw [hap2.out, show n + 1 - m = (n + 1 - (m + 1)) + 1 by omega]; exact firstN_none (by unfold apCell; rw [hcell, hp, hr]; rfl))
              clear hcell hap2
              go_wp2
              go_quiet (fail)
              go_wp2
              go_roundw
              case rel => exact ⟨m + 1, by omega, by go_num, hno, hB.out.trans ((Drawn0.mk ⟨_, rfl⟩).below.mono hB.out.size)⟩
              case measure => simp [intOf]; omega
          · obtain rfl : m = n := by omega
            obtain ⟨ax, rfl, x1⟩ := Kd.at_int hCx' (m : Int) (by omega) (by omega)
            obtain ⟨ay, rfl, y1⟩ := Kd.at_int hCy' (m : Int) (by omega) (by omega)
            rw [Int.toNat_natCast] at x1 y1
            have hcell : apB x y m m = ((rd x (m : Int) == -1) != (rd y (m : Int) == -1)) := by unfold apB; rw [if_pos rfl]
            generalize rd x (m : Int) = xm at x1 hcell
            generalize rd y (m : Int) = ym at y1 hcell
            cases hp : (xm == -1) <;> cases hr : (ym == -1)
            · have hno : Hid (apFind x y = firstN (apRow x y) (x.length - (m + 1)) (m + 1)) := Lib.hid (by
                rw [hap.out, show x.length - m = (x.length - (m + 1)) + 1 by omega]
                exact firstN_none (by rw [hap2.out, show m + 1 - m = 0 + 1 by omega]; exact firstN_none (by unfold apCell; rw [hcell, hp, hr]; rfl)))
              clear hcell hap2 hap
              go_wp2
              go_quiet (fail)
              go_wp2
              go_roundw
              case rel => exact ⟨m + 1, by omega, by go_num, hno, hB.out.trans ((Drawn0.mk ⟨_, rfl⟩).below.mono hB.out.size)⟩
              case measure => simp [intOf]; omega
            · have hyes : Hid (apartR l a b = ((m : Int), (m : Int), 0)) := Lib.hid (hfin.out (some (m, m)) (by
                rw [hap.out, show x.length - m = (x.length - m - 1) + 1 by omega]
                exact firstN_some (by rw [hap2.out, show m + 1 - m = 0 + 1 by omega]; exact firstN_some (by unfold apCell; rw [hcell, hp, hr]; rfl))))
              clear hcell hap2 hap hfin
              go_wp2
              go_quiet (fail)
              go_wp2
              go_ret3
              rw [hyes.out]
              exact ⟨rfl, hBw.out.trans ((Drawn0.mk ⟨_, rfl⟩).below.mono hBw.out.size)⟩
            · have hyes : Hid (apartR l a b = ((m : Int), (m : Int), 0)) := Lib.hid (hfin.out (some (m, m)) (by
                rw [hap.out, show x.length - m = (x.length - m - 1) + 1 by omega]
                exact firstN_some (by rw [hap2.out, show m + 1 - m = 0 + 1 by omega]; exact firstN_some (by unfold apCell; rw [hcell, hp, hr]; rfl))))
              clear hcell hap2 hap hfin
              go_wp2
              go_quiet (fail)
              go_wp2
              go_ret3
              rw [hyes.out]
              exact ⟨rfl, hBw.out.trans ((Drawn0.mk ⟨_, rfl⟩).below.mono hBw.out.size)⟩
            · have hno : Hid (apFind x y = firstN (apRow x y) (x.length - (m + 1)) (m + 1)) := Lib.hid (by
                rw [hap.out, show x.length - m = (x.length - (m + 1)) + 1 by omega]
                exact firstN_none (by rw [hap2.out, show m + 1 - m = 0 + 1 by omega]; exact firstN_none (by unfold apCell; rw [hcell, hp, hr]; rfl)))
              clear hcell hap2 hap
              go_wp2
              go_quiet (fail)
              go_wp2
              go_roundw
              case rel => exact ⟨m + 1, by omega, by go_num, hno, hB.out.trans ((Drawn0.mk ⟨_, rfl⟩).below.mono hB.out.size)⟩
              case measure => simp [intOf]; omega
      · obtain rfl : n = x.length := by omega
        have hno : Hid (apartR l a b = (0, 0, 9)) := Lib.hid (hfin.out none (by rw [hap.out, Nat.sub_self]; rfl))
        have hBw := Aside0.mk (hb1.out.trans (hB.mono hb1.out.size))
        clear hap hfin hB
        go_wp2
        go_ret3
        rw [hno.out]
        exact ⟨rfl, hBw.out⟩
  · have hans2 : Hid (apartR l a b = (0, 0, q)) := Lib.hid (by rw [hans]; exact if_neg h0)
    clear hans hq hCx hCy hc hd hxy hxl hyl
    go_wp2
    go_ret3
    rw [hans2.out]
    exact ⟨rfl, hb1.out⟩
/-- Whether two frames can't be told apart. -/
def staticR (l : List S28) (a b : List Int) : Bool × Int := if (apartR l a b).2.2 = 0 then (false, 0) else if (apartR l a b).2.2 = 9 then (true, 0) else (false, (apartR l a b).2.2)
theorem apartR_q (l : List S28) (a b : List Int) (hwf : ∀ t ∈ l, wfT t) : (apartR l a b).2.2 = 0 ∨ (apartR l a b).2.2 = 9 ∨ (apartR l a b).2.2 = 1 ∨ (apartR l a b).2.2 = 2 ∨ (apartR l a b).2.2 = 5 ∨ (apartR l a b).2.2 = 6 := by
  have h := (bothR_len l a b hwf).2.2.2
  unfold apartR apartV
  split
  · split
    · exact .inl rfl
    · exact .inr (.inl rfl)
  · rename_i h0
    rcases h with h | h | h | h | h
    · exact absurd h h0
    · exact .inr (.inr (.inl h))
    · exact .inr (.inr (.inr (.inl h)))
    · exact .inr (.inr (.inr (.inr (.inl h))))
    · exact .inr (.inr (.inr (.inr (.inr h))))
set_option maxHeartbeats 1000000 in
theorem static_calls (A0 : Option Addr) (c0 : Nat) (l : List S28) (A1 : Option Addr) (c1 : Nat) (a : List Int) (A2 : Option Addr) (c2 : Nat) (b : List Int) (w : World) (hC : k28.C w A0 l.length l) (hc0 : l.length ≤ c0) (hlen : l.length ≤ 1000000) (hwf : ∀ t ∈ l, wfT t)
    (hA : (Kd.int .i64).C w A1 a.length a) (hc1 : a.length ≤ c1) (hal : a.length ≤ 1000000) (hB : (Kd.int .i64).C w A2 b.length b) (hc2 : b.length ≤ c2) (hbl : b.length ≤ 1000000) :
    Calls Try.prog 15 #[.slice A0 l.length c0, .slice A1 a.length c1, .slice A2 b.length c2] w fun e W' => e = .returned (.tuple #[.bool (staticR l a b).1, .int .i64 (staticR l a b).2]) ∧ Below w.heap.size w W' := by
  have h1 := Aside0.mk (apart_calls A0 c0 l A1 c1 a A2 c2 b w hC hc0 hlen hwf hA hc1 hal hB hc2 hbl)
  have hq := apartR_q l a b hwf
  have hans : staticR l a b = if (apartR l a b).2.2 = 0 then (false, 0) else if (apartR l a b).2.2 = 9 then (true, 0) else (false, (apartR l a b).2.2) := rfl
  generalize apartR l a b = r at h1 hq hans
  obtain ⟨m, n, q⟩ := r
  simp only at hq hans
  clear hC hA hB hwf
  rcases hq with rfl | rfl | rfl | rfl | rfl | rfl
  all_goals
    simp only [Int.reduceEq, if_true, if_false] at hans
    replace hans := Lib.hid hans
    go_enter Try.func15, Try.ntmps15
    go_wp2_with fail
    refine h1.out.mono ?_; rintro e_ w1 ⟨rfl, hb1⟩
    replace hb1 := Aside0.mk hb1
    clear h1
    go_wp2
    go_ret2
    rw [hans.out]
    exact ⟨rfl, hb1.out⟩
def aliveL : List S28 := [⟨0, 1, 0, 0⟩, ⟨0, 2, 0, 0⟩, ⟨1, 0, 0, 0⟩, ⟨1, 0, 1, 0⟩]
theorem rowI_C {W : World} {xs : List Int} {g : Nat} (hv : W.heap[g]? = some (.cells (xs.map (Value.int .i64)).toArray 3 (0, 0))) (hl : xs.length ≤ 1000000) : (Kd.int .i64).C W (some ⟨g, 0, none⟩) xs.length xs := by
  refine ⟨rfl, by omega, fun _ => ⟨_, rfl, fun k p hk => ⟨[.int .i64 p], rfl, rfl, fun i' u hu => ?_⟩⟩⟩
  obtain ⟨rfl, rfl⟩ : i' = 0 ∧ u = .int .i64 p := by
    rcases i' with _ | i'
    · exact ⟨rfl, by simpa using hu.symm⟩
    · simp at hu
  rw [Addr.add_lit, blk_cell hv]
  show (xs.map (Value.int .i64)).toArray[0 + (k * 1 + 0)]? = _
  rw [show 0 + (k * 1 + 0) = k by omega]
  simp [hk]
def cellsT (t : S28) : List Value := [.int .i64 t.f0, .int .u64 t.f1, .int .i64 t.f2, .int .i64 t.f3]
theorem flat_get {α β : Type} (f : α → List β) (k : Nat) (hk : ∀ x, (f x).length = k) : ∀ (l : List α) (j i : Nat) (x : α), l[j]? = some x → i < k → (l.flatMap f)[j * k + i]? = (f x)[i]?
  | [], j, i, x, h, _ => by simp at h
  | y :: l, 0, i, x, h, hi => by
    obtain rfl : y = x := by simpa using h
    rw [List.flatMap_cons, Nat.zero_mul, Nat.zero_add, List.getElem?_append_left (by rw [hk]; exact hi)]
  | y :: l, j + 1, i, x, h, hi => by
    rw [List.flatMap_cons, List.getElem?_append_right (by rw [hk, Nat.add_mul]; omega), hk, show (j + 1) * k + i - k = j * k + i by rw [Nat.add_mul]; omega]
    exact flat_get f k hk l j i x (by simpa using h) hi
theorem rowT_C {W : World} {ts : List S28} {g : Nat} (hv : W.heap[g]? = some (.cells (ts.flatMap cellsT).toArray 28 (0, 0))) (hl : ts.length ≤ 1000000) : k28.C W (some ⟨g, 0, none⟩) ts.length ts := by
  refine ⟨rfl, by omega, fun _ => ⟨_, rfl, fun j p hj => ⟨cellsT p, rfl, k28_mk _ _, fun i u hu => ?_⟩⟩⟩
  have hi : i < 4 := by
    have := (List.getElem?_eq_some_iff.1 hu).1
    simpa [cellsT] using this
  rw [Addr.add_lit, blk_cell hv, show 0 + (j * k28.sz + i) = j * 4 + i from Nat.zero_add _, List.getElem?_toArray, flat_get cellsT 4 (fun _ => rfl) ts j i p hj hi]
  exact hu
theorem aliveL_wf : ∀ t ∈ aliveL, wfT t := by
  intro t ht
  simp only [aliveL, List.mem_cons, List.not_mem_nil, or_false] at ht
  rcases ht with rfl | rfl | rfl | rfl <;> exact ⟨by rfl, by rfl, by rfl, by rfl⟩
set_option maxRecDepth 100000 in
set_option maxHeartbeats 1000000 in
theorem alive22_calls (w : World) : Calls Try.prog 36 #[] w fun e w' => e = .returned (.bool true) ∧ Below w.heap.size w w' := by
  obtain ⟨w1, hw1⟩ : ∃ w1, w.alloc (.cells #[.int .i64 0, .int .u64 1, .int .i64 0, .int .i64 0, .int .i64 0, .int .u64 2, .int .i64 0, .int .i64 0, .int .i64 1, .int .u64 0, .int .i64 0, .int .i64 0, .int .i64 1, .int .u64 0, .int .i64 1, .int .i64 0] 28 (0, 0)) = w1 := ⟨_, rfl⟩
  have hb1 : Below w.heap.size w w1 := by rw [← hw1]; exact below_alloc (Below.refl _ _) _
  have hK1 : w1.heap[w.heap.size]? = some (.cells (aliveL.flatMap cellsT).toArray 28 (0, 0)) := by rw [← hw1]; exact heap_alloc_new _ _
  have hst : ∀ (W : World) (i j k m : Int) (r : Bool), Below w1.heap.size w1 W → staticR aliveL [i, j] [k, m] = (r, 0) → Calls Try.prog 15 #[.slice (some ⟨w.heap.size, 0, none⟩) 4 4, .slice (some ⟨W.heap.size, 0, none⟩) 2 2, .slice (some ⟨W.heap.size + 1, 0, none⟩) 2 2] ((W.alloc (.cells #[.int .i64 i, .int .i64 j] 3 (0, 0))).alloc (.cells #[.int .i64 k, .int .i64 m] 3 (0, 0))) fun e w' => e = .returned (.tuple #[.bool r, .int .i64 0]) ∧ Below W.heap.size W w' := fun W i j k m r hW hs => by
    obtain ⟨h1, h2⟩ := two_new W (.cells #[.int .i64 i, .int .i64 j] 3 (0, 0)) (.cells #[.int .i64 k, .int .i64 m] 3 (0, 0))
    have hbb : Below W.heap.size W ((W.alloc (.cells #[.int .i64 i, .int .i64 j] 3 (0, 0))).alloc (.cells #[.int .i64 k, .int .i64 m] 3 (0, 0))) := below_alloc (below_alloc (Below.refl _ _) _) _
    have := static_calls _ 4 aliveL _ 2 [i, j] _ 2 [k, m] _ (Kd.C_below (Kd.C_below (rowT_C hK1 (by decide)) hW) hbb) (by decide) (by decide) aliveL_wf (rowI_C (xs := [i, j]) h1 (by simp)) (Nat.le_refl _) (by simp) (rowI_C (xs := [k, m]) h2 (by simp)) (Nat.le_refl _) (by simp)
    rw [hs] at this
    exact this.mono fun e w' ⟨h, hb⟩ => ⟨h, below_step hbb hb⟩
  have hc1 := Aside0.mk (hst w1 0 2 0 3 false (Below.refl _ _) (by kernel_rfl))
  have hc2 : Hid (∀ W, Below w1.heap.size w1 W → _) := Lib.hid fun W hW => hst W 0 2 1 3 true hW (by kernel_rfl)
  clear hst hK1
  go_enter Try.func36, Try.ntmps36
  go_wp2_with fail
  refine hc1.out.mono ?_; rintro e_ w2 ⟨rfl, hb2⟩
  have hc3 := Aside0.mk (hc2.out w2 hb2)
  have hB2 := Aside0.mk (below_step hb1 hb2)
  clear hc1 hc2 hb2 hb1
  go_wp2_with fail
  refine hc3.out.mono ?_; rintro e_ w3 ⟨rfl, hb3⟩
  have hB3 := Aside0.mk (below_step hB2.out hb3)
  clear hc3 hb3 hB2
  go_wp2
  go_ret
  exact ⟨rfl, hB3.out⟩
end Go.Proofs.Ytenmmeehgnkcpaa.Q
