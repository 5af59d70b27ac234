/- slices.DeleteFunc at mails with relay.without's function: the row without what is gone; what the function has met is told.
   Conditions: the row is the call's own; the function answers as p, and changes at most one elder block. -/
import Derived.Test.YtbmfcikjhnnnbaaHLike
import Derived.Test.YtbmfcikjhnnnbaaHPush
namespace Go.Proofs.Ytbmfcikjhnnnbaa.Q
open Go.RowKit Go.Proofs.YtbmfcikjhnnnbaaW.PrintWords Go.Proofs.YtbmfcikjhnnnbaaW.PrintLast Go.Proofs.YtbmfcikjhnnnbaaW.PrintMore
set_option linter.unusedVariables false
set_option linter.unusedSimpArgs false

/-- All blocks below B stay, but for one. -/
structure Fr (B : Nat) (gx : Option Nat) (w w' : World) : Prop where
  os : w'.os = w.os
  tape : w'.tape = w.tape
  output : w'.output = w.output
  size : w.heap.size ≤ w'.heap.size
  block : ∀ k, k < B → some k ≠ gx → w'.heap[k]? = w.heap[k]?
theorem Fr.refl (B : Nat) (gx : Option Nat) (w : World) : Fr B gx w w := ⟨rfl, rfl, rfl, Nat.le_refl _, fun _ _ _ => rfl⟩
theorem Fr.trans {B : Nat} {gx : Option Nat} {a b c : World} (h : Fr B gx a b) (k : Fr B gx b c) : Fr B gx a c :=
  ⟨k.os.trans h.os, k.tape.trans h.tape, k.output.trans h.output, Nat.le_trans h.size k.size, fun i hi hn => (k.block i hi hn).trans (h.block i hi hn)⟩
theorem Fr.mono {B B' : Nat} {gx : Option Nat} {a b : World} (h : Fr B gx a b) (hb : B' ≤ B) : Fr B' gx a b := ⟨h.os, h.tape, h.output, h.size, fun i hi hn => h.block i (Nat.lt_of_lt_of_le hi hb) hn⟩
theorem Fr.of_below {B : Nat} {gx : Option Nat} {a b : World} (h : Below B a b) : Fr B gx a b := ⟨h.os, h.tape, h.output, h.size, fun i hi _ => h.block i hi⟩
theorem Fr.below {B B' : Nat} {gx : Option Nat} {a b : World} (h : Fr B gx a b) (hb : B' ≤ B) (hx : ∀ k, gx = some k → B' ≤ k) : Below B' a b :=
  ⟨h.os, h.tape, h.output, h.size, fun i hi => h.block i (Nat.lt_of_lt_of_le hi hb) (fun e => by have := hx i e.symm; omega)⟩
theorem Fr.step {B : Nat} {gx : Option Nat} {a b c : World} (h : Fr B gx a b) (k : Below b.heap.size b c) (hB : B ≤ b.heap.size) : Fr B gx a c := h.trans (Fr.of_below ⟨k.os, k.tape, k.output, k.size, fun i hi => k.block i (Nat.lt_of_lt_of_le hi hB)⟩)
theorem Fr.grown {B : Nat} {gx row : Option Nat} {a b c : World} (h : Fr B gx a b) (k : b.grownBy c row) (hB : B ≤ b.heap.size) (hr : ∀ i, row = some i → B ≤ i) : Fr B gx a c :=
  h.trans ⟨k.os, k.tape, k.output, k.size, fun i hi _ => k.block i (Nat.lt_of_lt_of_le hi hB) (fun e => by have := hr i e.symm; omega)⟩
/-- The function that is handed to DeleteFunc: it answers as p, and I tells what it has met. -/
def DelC (gg gb : Nat) (gx : Option Nat) (p : S54 → Bool) (I : Bool → World → Prop) : Prop :=
  ∀ (m : S54) (t : Bool) (W : World), I t W → Calls Try.prog 54 #[mv m, .pointer (some ⟨gg, 0, none⟩), .pointer (some ⟨gb, 0, none⟩)] W fun e w' => e = .returned (.bool (p m)) ∧ Fr W.heap.size gx W w' ∧ I (t || p m) w'
abbrev dv (gg gb : Nat) : Value := .func (.func 54) #[] #[.pointer (some ⟨gg, 0, none⟩), .pointer (some ⟨gb, 0, none⟩)]
theorem R_fr {base : Nat} {gx : Option Nat} {v : Value} {xs : List S54} {W W' : World} (h : Kd.R k54 54 W base (fun _ => True) v xs) (hf : Fr W.heap.size gx W W') (hx : ∀ k, gx = some k → k < base) : Kd.R k54 54 W' base (fun _ => True) v xs :=
  Kd.R_mono (Kd.R_step (Kd.R_bound h) (fun k hk hl => hf.block k hl (fun e => by have := hx k e.symm; have := hk.2.1; omega))) (fun _ _ => trivial)
/-- The place of the first mail that is gone. -/
def goneOf (p : S54 → Bool) (l : List S54) : Nat := l.findIdx p
theorem goneOf_at (l : List S54) (p : S54 → Bool) (i : Int) (h0 : 0 ≤ i) (h1 : i < l.length) (hp : p (rd_T54 l i) = true) (hb : ∀ j : Int, 0 ≤ j → j < i → p (rd_T54 l j) = false) : (goneOf p l : Int) = i := by
  obtain ⟨n, rfl⟩ := Int.eq_ofNat_of_zero_le h0
  have hn : n < l.length := by omega
  have hr : ∀ (k : Nat) (hk : k < l.length), rd_T54 l k = l[k] := fun k hk => by simp [rd_T54, hk]
  unfold goneOf
  congr 1
  rw [List.findIdx_eq hn]
  refine ⟨by rw [← hr n hn]; exact hp, fun j hj => ?_⟩
  rw [← hr j (by omega)]
  exact hb j (by omega) (by omega)
theorem goneOf_none (l : List S54) (p : S54 → Bool) (hb : ∀ j : Int, 0 ≤ j → j < l.length → p (rd_T54 l j) = false) : goneOf p l = l.length := by
  have hr : ∀ (k : Nat) (hk : k < l.length), rd_T54 l k = l[k] := fun k hk => by simp [rd_T54, hk]
  unfold goneOf
  rw [List.findIdx_eq_length]
  intro x hx
  obtain ⟨k, hk, rfl⟩ := List.getElem_of_mem hx
  rw [← hr k hk]
  exact hb k (by omega) (by omega)
theorem any_take_false {p : S54 → Bool} {l : List S54} {i : Int} (h0 : 0 ≤ i) (h1 : i ≤ l.length) (hb : ∀ j : Int, 0 ≤ j → j < i → p (rd_T54 l j) = false) : (l.take i.toNat).any p = false := by
  rw [List.any_eq_false]
  intro x hx
  obtain ⟨k, hk, rfl⟩ := List.getElem_of_mem hx
  rw [List.length_take] at hk
  rw [List.getElem_take]
  have := hb (k : Int) (by omega) (by omega)
  rw [show rd_T54 l (k : Int) = l[k] by simp [rd_T54, show k < l.length by omega]] at this
  simp [this]
theorem any_take_succ (p : S54 → Bool) (l : List S54) (j : Int) (h0 : 0 ≤ j) (h1 : j < l.length) : (l.take (j + 1).toNat).any p = ((l.take j.toNat).any p || p (rd_T54 l j)) := by
  obtain ⟨n, rfl⟩ := Int.eq_ofNat_of_zero_le h0
  have hn : n < l.length := by omega
  have hr : rd_T54 l (n : Int) = l[n] := by simp [rd_T54, hn]
  rw [show ((n : Int) + 1).toNat = n + 1 by omega, show ((n : Int)).toNat = n by omega, List.take_succ_eq_append_getElem hn, List.any_append, hr]
  simp
/-- A mail of a row of one's own: its cells. -/
theorem own_cells {W : World} {base n c g : Nat} {ok : Nat → Prop} {cur : List S54} (h : Kd.R k54 54 W base ok (.slice (some ⟨g, 0, none⟩) n c) cur) (i : Int) (h0 : 0 ≤ i) (h1 : i < n) :
    (W.cell? ⟨g, i.toNat * 3, none⟩ = some (.int .u64 (rd_T54 cur i).f0) ∧ W.cell? ⟨g, i.toNat * 3 + 1, none⟩ = some (.string (rd_T54 cur i).f1) ∧ W.cell? ⟨g, i.toNat * 3 + 2, none⟩ = some (.int .u64 (rd_T54 cur i).f2)) ∧
    (W.frozen? ⟨g, i.toNat * 3, none⟩ = false ∧ W.frozen? ⟨g, i.toNat * 3 + 1, none⟩ = false ∧ W.frozen? ⟨g, i.toNat * 3 + 2, none⟩ = false) := by
  obtain ⟨cs, hl, hM, hc, hf⟩ := Kd.R_elem h (rd_T54 cur i) i h0 h1
  have e : cur.getD i.toNat (rd_T54 cur i) = rd_T54 cur i := by
    have hlt : i.toNat < cur.length := by have := (Kd.R_reads' h).1; omega
    simp [rd_T54, List.getD_eq_getElem?_getD, hlt]
  rw [e] at hM
  obtain rfl := k54_openM hM
  exact ⟨⟨hc 0 _ rfl, hc 1 _ rfl, hc 2 _ rfl⟩, hf 0, hf 1, hf 2⟩
/-- A mail is laid at a place of a row of one's own. -/
theorem own_put {W : World} {base n c g : Nat} {ok : Nat → Prop} {cur : List S54} (h : Kd.R k54 54 W base ok (.slice (some ⟨g, 0, none⟩) n c) cur) (i : Int) (h0 : 0 ≤ i) (h1 : i < n) (p : S54) :
    Kd.R k54 54 (((W.setCell ⟨g, i.toNat * 3, none⟩ (.int .u64 p.f0)).setCell ⟨g, i.toNat * 3 + 1, none⟩ (.string p.f1)).setCell ⟨g, i.toNat * 3 + 2, none⟩ (.int .u64 p.f2)) base ok (.slice (some ⟨g, 0, none⟩) n c) (cur.set i.toNat p) ∧
    W.grownBy (((W.setCell ⟨g, i.toNat * 3, none⟩ (.int .u64 p.f0)).setCell ⟨g, i.toNat * 3 + 1, none⟩ (.string p.f1)).setCell ⟨g, i.toNat * 3 + 2, none⟩ (.int .u64 p.f2)) (some g) := by
  obtain ⟨cs, hl, hM, hc, hf⟩ := Kd.R_elem h (rd_T54 cur i) i h0 h1
  have hcs := k54_openM hM
  exact Kd.R_seg (okp := fun _ => False) (j := 0) h i h0 h1 hl hc (seg := [.int .u64 p.f0, .string p.f1, .int .u64 p.f2]) (Nat.le_refl 3) (by rw [hcs]; exact k54_mkM _ _ _ p) (fun k hk => hk.elim)
set_option maxHeartbeats 1000000 in
set_option maxRecDepth 100000 in
theorem indexD_calls (g c : Nat) (xs : List S54) (gg gb base : Nat) (gx : Option Nat) (p : S54 → Bool) (I : Bool → World → Prop) (t0 : Bool) (w : World) (ho : Kd.R k54 54 w base (fun _ => True) (.slice (some ⟨g, 0, none⟩) xs.length c) xs)
    (hx : ∀ k, gx = some k → k < base) (hC : DelC gg gb gx p I) (hI : I t0 w) :
    Calls Try.prog 47 #[.slice (some ⟨g, 0, none⟩) xs.length c, dv gg gb] w fun e w' => e = .returned (.int .i64 (if goneOf p xs < xs.length then goneOf p xs else -1)) ∧ Kd.R k54 54 w' base (fun _ => True) (.slice (some ⟨g, 0, none⟩) xs.length c) xs ∧ Fr w.heap.size gx w w' ∧ I (t0 || decide (goneOf p xs < xs.length)) w' := by
  obtain ⟨fin, hfin⟩ : ∃ fin, (if goneOf p xs < xs.length then (goneOf p xs : Int) else -1) = fin := ⟨_, rfl⟩
  rw [hfin]
  replace hfin := Lib.hid hfin
  replace hC := Lib.hid hC
  replace ho := Aside0.mk ho
  replace hI := Aside0.mk hI
  have hlim : xs.length ≤ 9223372036854775807 := (Kd.R_reads' ho.out).2.2.2.1
  go_enter Try.func47, Try.ntmps47
  go_wp2
  go_loopw [8] (fun v wr => ∃ i : Int, 0 ≤ i ∧ i ≤ xs.length ∧ v = .int .i64 i ∧ (∀ j : Int, 0 ≤ j → j < i → p (rd_T54 xs j) = false) ∧ Kd.R k54 54 wr base (fun _ => True) (.slice (some ⟨g, 0, none⟩) xs.length c) xs ∧ Fr w.heap.size gx w wr ∧ I t0 wr) (fun v _ => xs.length - (intOf v).toNat)
  case atStart => exact ⟨0, by omega, by omega, rfl, fun j h1 h2 => by omega, ho.out, Fr.refl _ _ _, hI.out⟩
  case round =>
    clear ho hI
    obtain ⟨i, hi0, hi1, rfl, hpre, hR, hF, hI⟩ := hrel
    replace hpre := Lib.hid hpre
    by_cases hlt : i < xs.length
    · obtain ⟨⟨q0, q1, q2⟩, _⟩ := own_cells hR i hi0 hlt
      have HP := Lib.hid (p := ∀ m, rd_T54 xs i = m → p m = false → ∀ j : Int, 0 ≤ j → j < i + 1 → p (rd_T54 xs j) = false) (by
        intro m hm hf j h1 h2
        by_cases hj : j = i
        · subst hj; rw [hm]; exact hf
        · exact hpre.out j h1 (by omega))
      have HF := Lib.hid (p := ∀ m, rd_T54 xs i = m → p m = true → fin = i ∧ decide (goneOf p xs < xs.length) = true) (by
        intro m hm hf
        have := goneOf_at xs p i hi0 hlt (by rw [hm]; exact hf) hpre.out
        exact ⟨by rw [← hfin.out, if_pos (by omega)]; exact this, decide_eq_true (by omega)⟩)
      obtain ⟨m, hm⟩ : ∃ m, rd_T54 xs i = m := ⟨_, rfl⟩
      rw [hm] at q0 q1 q2
      replace HP := Lib.hid (HP.out m hm)
      replace HF := Lib.hid (HF.out m hm)
      have hc := Aside0.mk (hC.out m t0 wr hI)
      replace hR := Aside0.mk hR
      replace hF := Aside0.mk hF
      clear hm hpre hI
      go_wp2_with fail
      refine hc.out.mono ?_; rintro e_ w2 ⟨rfl, hf, hI⟩
      have hR2 := Aside0.mk (R_fr hR.out hf hx)
      have hF2 := Aside0.mk (hF.out.trans (hf.mono hF.out.size))
      clear hc q0 q1 q2 hf hR hF
      replace hI := Aside0.mk hI
      cases hp : p m with
      | true =>
        obtain ⟨e1, e2⟩ := HF.out hp
        rw [hp, ← e2] at hI
        replace e1 := Lib.hid e1
        clear e2
        go_wp2
        go_ret
        exact ⟨by rw [e1.out]; rfl, hR2.out, hF2.out, hI.out⟩
      | false =>
        rw [hp, Bool.or_false] at hI
        have hs := Aside0.mk (HP.out hp)
        go_wp2
        go_roundw
        case rel => exact ⟨i + 1, by omega, by omega, rfl, hs.out, hR2.out, hF2.out, hI.out⟩
        case measure => simp [intOf]; omega
    · obtain rfl : i = xs.length := by omega
      have hf := goneOf_none xs p hpre.out
      have hf2 := hfin.out
      rw [if_neg (by omega)] at hf2
      have hI2 : I (t0 || decide (goneOf p xs < xs.length)) wr := by rw [decide_eq_false (by omega), Bool.or_false]; exact hI
      replace hI2 := Aside0.mk hI2
      replace hR := Aside0.mk hR
      replace hF := Aside0.mk hF
      clear hI hf
      go_wp2
      go_ret
      exact ⟨by rw [← hf2]; rfl, hR.out, hF.out, hI2.out⟩
/-- What of the first mails stays. -/
def keepI (p : S54 → Bool) (xs : List S54) (j : Nat) : List S54 := (xs.take j).filter fun m => !p m
theorem keepI_succ (p : S54 → Bool) (xs : List S54) (j : Int) (h0 : 0 ≤ j) (h1 : j < xs.length) : keepI p xs (j + 1).toNat = keepI p xs j.toNat ++ if p (rd_T54 xs j) then [] else [rd_T54 xs j] := by
  obtain ⟨n, rfl⟩ := Int.eq_ofNat_of_zero_le h0
  have hn : n < xs.length := by omega
  have hr : rd_T54 xs (n : Int) = xs[n] := by simp [rd_T54, hn]
  unfold keepI
  rw [show ((n : Int) + 1).toNat = n + 1 by omega, show ((n : Int)).toNat = n by omega, List.take_succ_eq_append_getElem hn, List.filter_append, hr]
  by_cases h : p xs[n] = true
  · simp [h]
  · simp [h]
/-- What the loop of DeleteFunc keeps. -/
structure Kept_ (p : S54 → Bool) (xs : List S54) (i j : Int) (cur : List S54) : Prop where
  i0 : 0 ≤ i
  ij : i < j
  jn : j ≤ xs.length
  len : cur.length = xs.length
  take : cur.take i.toNat = keepI p xs j.toNat
  ilen : (keepI p xs j.toNat).length = i.toNat
  drop : cur.drop j.toNat = xs.drop j.toNat
theorem Kept_.rd {p : S54 → Bool} {xs : List S54} {i j : Int} {cur : List S54} (h : Kept_ p xs i j cur) (hj : j < xs.length) : rd_T54 cur j = rd_T54 xs j := by
  have hl := h.len
  have h0 := h.i0
  have h1 := h.ij
  have e1 : (cur.drop j.toNat)[0]? = cur[j.toNat]? := by simp
  have e2 : (xs.drop j.toNat)[0]? = xs[j.toNat]? := by simp
  have e : cur[j.toNat]? = xs[j.toNat]? := by rw [← e1, ← e2, h.drop]
  simp only [rd_T54, List.getD_eq_getElem?_getD, e]
theorem Kept_.go {p : S54 → Bool} {xs : List S54} {i j : Int} {cur : List S54} (h : Kept_ p xs i j cur) (hj : j < xs.length) (ho : p (rd_T54 xs j) = true) : Kept_ p xs i (j + 1) cur := by
  obtain ⟨i0, ij, jn, len, take, ilen, drop⟩ := h
  have hk := keepI_succ p xs j (by omega) hj
  rw [if_pos ho, List.append_nil] at hk
  refine ⟨i0, by omega, by omega, len, by rw [hk]; exact take, by rw [hk]; exact ilen, ?_⟩
  rw [show (j + 1).toNat = j.toNat + 1 by omega, ← List.drop_drop, ← List.drop_drop, drop]
theorem Kept_.stay {p : S54 → Bool} {xs : List S54} {i j : Int} {cur : List S54} (h : Kept_ p xs i j cur) (hj : j < xs.length) (ho : p (rd_T54 xs j) = false) : Kept_ p xs (i + 1) (j + 1) (cur.set i.toNat (rd_T54 xs j)) := by
  obtain ⟨i0, ij, jn, len, take, ilen, drop⟩ := h
  have hk := keepI_succ p xs j (by omega) hj
  rw [if_neg (by rw [ho]; simp)] at hk
  have hi : i.toNat < cur.length := by omega
  refine ⟨by omega, by omega, by omega, by rw [List.length_set]; exact len, ?_, by rw [hk, List.length_append, ilen]; simp; omega, ?_⟩
  · rw [hk, show (i + 1).toNat = i.toNat + 1 by omega, List.take_succ_eq_append_getElem (by rw [List.length_set]; exact hi), List.take_set_of_le (Nat.le_refl _), take, List.getElem_set_self]
  · rw [List.drop_set_of_lt (by omega), show (j + 1).toNat = j.toNat + 1 by omega, ← List.drop_drop, ← List.drop_drop, drop]
theorem Kept_.done {p : S54 → Bool} {xs : List S54} {i : Int} {cur : List S54} (h : Kept_ p xs i xs.length cur) : cur.take i.toNat = xs.filter fun m => !p m := by
  rw [h.take]
  simp [keepI]
theorem Kept_.start {p : S54 → Bool} {xs : List S54} (h : goneOf p xs < xs.length) : Kept_ p xs (goneOf p xs) ((goneOf p xs : Int) + 1) xs := by
  have hp : p xs[goneOf p xs] = true := List.findIdx_getElem (p := p)
  have hall : (xs.take (goneOf p xs)).filter (fun m => !p m) = xs.take (goneOf p xs) := by
    rw [List.filter_eq_self]
    intro a ha
    obtain ⟨k, hk, rfl⟩ := List.getElem_of_mem ha
    rw [List.length_take] at hk
    rw [List.getElem_take]
    have := List.not_of_lt_findIdx (p := p) (xs := xs) (i := k) (by unfold goneOf at hk; omega)
    simpa using this
  have hk : keepI p xs ((goneOf p xs : Int) + 1).toNat = xs.take (goneOf p xs) := by
    have hs := keepI_succ p xs (goneOf p xs) (by omega) (by omega)
    have hr : rd_T54 xs (goneOf p xs : Int) = xs[goneOf p xs] := by simp [rd_T54, h]
    rw [hs, hr, if_pos hp, List.append_nil, Int.toNat_natCast]
    exact hall
  exact ⟨by omega, by omega, by omega, rfl, by rw [hk, Int.toNat_natCast], by rw [hk, Int.toNat_natCast, List.length_take]; omega, rfl⟩
theorem any_start {p : S54 → Bool} {xs : List S54} (h : goneOf p xs < xs.length) : (xs.take ((goneOf p xs : Int) + 1).toNat).any p = true := by
  rw [any_take_succ p xs _ (by omega) (by omega)]
  have hr : rd_T54 xs (goneOf p xs : Int) = xs[goneOf p xs] := by simp [rd_T54, h]
  have hp : p xs[goneOf p xs] = true := List.findIdx_getElem (p := p)
  rw [hr, hp, Bool.or_true]
/-- What is stored behind the elements of a row of one's own leaves the row. -/
theorem R_beyond {α : Type} {d : Kd α} {e base g n c : Nat} {ok : Nat → Prop} {W : World} {xs : List α} (h : d.R e W base ok (.slice (some ⟨g, 0, none⟩) n c) xs) (o : Nat) (news : List Value) (ho : n * d.sz ≤ o) (hl : o + news.length ≤ c * d.sz) :
    d.R e (W.setCells g o news) base ok (.slice (some ⟨g, 0, none⟩) n c) xs ∧ W.grownBy (W.setCells g o news) (some g) := by
  obtain ⟨hn, hnc, _⟩ := Kd.R_reads' h
  subst hn
  obtain ⟨hok, inner, hown, hr⟩ := h
  rcases hown.2 with ⟨hv, _⟩ | ⟨g', cap', cur, hv, hb, hh, hnc', hcm, hcs, htake⟩
  · cases hv
  injection hv with ha _ hc
  injection ha with ha
  injection ha with hg
  subst hg; subst hc
  obtain ⟨cur', h3, h4, h5⟩ := setCells_row news o W cur hh (by omega)
  obtain ⟨s1, s2, s3, s4⟩ := setCells_same g news o W
  have hfar : ∀ k', k' ≠ g → (W.setCells g o news).heap[k']? = W.heap[k']? := fun k' hk' => setCells_far news _ k' hk'
  have hin : inner.length = xs.length * d.sz := hr.1
  have hmul := Nat.mul_le_mul_right d.sz hnc'
  refine ⟨⟨hok, inner, ⟨hown.1, .inr ⟨g, c, cur', rfl, hb, h3, hnc', hcm, by rw [h4, hcs], ?_⟩⟩, ?_⟩, ⟨s1, s2, s3, by rw [s4]; exact Nat.le_refl _, fun k' _ hk' => hfar k' (fun he => hk' (by rw [he]))⟩⟩
  · rw [h5, List.append_assoc, List.take_append_of_le_length (by rw [List.length_take, Array.length_toList]; show xs.length * d.sz ≤ min o cur.size; omega), List.take_take, Nat.min_eq_left ho]
    exact htake
  · exact hr.imp_ (fun p q hp => d.M_move (fun k' hk' => hfar k' (fun he => hk'.2 (by rw [he]; rfl))) hp)
theorem run_clear_rows {W : World} {g o k : Nat} {cur : Array Value} (hh : W.heap[g]? = some (.cells cur 54 (0, 0))) (hk : 0 < k) (hfit : o + k * 3 ≤ cur.size) :
    ∃ zs : List Value, zs.length = k * 3 ∧ ∀ c, (Builtin.clear_ #[39] 0 #[.slice (some ⟨g, o, none⟩) k c]).run Try.prog W = .ok (.tuple #[]) (W.setCells g o zs) := by
  obtain ⟨zv, hzv⟩ : ∃ zv : Array Value, zv = #[.int .u64 0, .string ⟨#[]⟩, .int .u64 0] := ⟨_, rfl⟩
  have hz : ∀ W, (zeroValue 54).run Try.prog W = .ok (.agg zv) W := fun W => by rw [hzv]; kernel_rfl
  have hzc : (Value.agg zv).cells = zv := by rw [hzv]; kernel_rfl
  have hzs : zv.size = 3 := by rw [hzv]; rfl
  have hl : (Builtin.zeroCells zv k).toList.length = k * 3 := by simp [Builtin.zeroCells, hzs]
  refine ⟨(Builtin.zeroCells zv k).toList, hl, fun c => ?_⟩
  have hone : ∀ v ∈ (Builtin.zeroCells zv k).toList, v.oneCell' = true := by
    intro v hv
    simp only [Builtin.zeroCells, Array.toList_map, List.mem_map, Array.mem_toList_iff] at hv
    obtain ⟨a, _, rfl⟩ := hv
    have hlt : a % zv.size < zv.size := Nat.mod_lt _ (by omega)
    rw [getElem!_pos zv (a % zv.size) hlt]
    have hm : zv[a % zv.size] ∈ zv := Array.getElem_mem hlt
    generalize zv[a % zv.size] = v at hm
    rw [hzv] at hm
    simp at hm
    rcases hm with rfl | rfl | rfl <;> rfl
  have hc : ∀ j, j < (Builtin.zeroCells zv k).toList.length → (W.cell? ⟨g, o + 0 + j, none⟩).isSome = true := by
    intro j hj
    rw [hl] at hj
    simp [World.cell?, hh]; omega
  have hf : ∀ j, j < (Builtin.zeroCells zv k).toList.length → W.frozen? ⟨g, o + 0 + j, none⟩ = false := by
    intro j hj
    simp [World.frozen?, hh]
  have hst := run_storeCells_cells (P := Try.prog) g o _ 0 W hc hf hone
  simp only [Nat.add_zero] at hst
  obtain ⟨m, rfl⟩ : ∃ m, k = m + 1 := ⟨k - 1, by omega⟩
  simp [Builtin.clear_, run_underlying Try.underlying39, hz, hzc, hst]
theorem box_cells3 {W : World} {g : Nat} {a b c : Value} {t : Nat} (h : W.heap[g]? = some (.cells #[a, b, c] t (0, 0))) : W.cell? ⟨g, 0, none⟩ = some a ∧ W.cell? ⟨g, 1, none⟩ = some b ∧ W.cell? ⟨g, 2, none⟩ = some c := box3 h
set_option maxHeartbeats 2000000 in
set_option maxRecDepth 100000 in
theorem deleteD_calls (g c : Nat) (xs : List S54) (gg gb base : Nat) (gx : Option Nat) (p : S54 → Bool) (I : Bool → World → Prop) (t0 : Bool) (w : World) (ho : Kd.R k54 54 w base (fun _ => True) (.slice (some ⟨g, 0, none⟩) xs.length c) xs)
    (hx : ∀ k, gx = some k → k < base) (hC : DelC gg gb gx p I) (hst : ∀ t W W', I t W → (∀ k, k < base → W'.heap[k]? = W.heap[k]?) → I t W') (hI : I t0 w) (hbw : base ≤ w.heap.size) :
    Calls Try.prog 53 #[.slice (some ⟨g, 0, none⟩) xs.length c, dv gg gb] w fun e w' => ∃ v, e = .returned v ∧ Kd.R k54 54 w' base (fun _ => True) v (xs.filter fun m => !p m) ∧ Fr base gx w w' ∧ I (t0 || xs.any p) w' := by
  obtain ⟨_, hc, hCr⟩ := Kd.R_reads' ho
  have hIx := indexD_calls g c xs gg gb base gx p I t0 w ho hx hC hI
  have hle : xs.length ≤ 9223372036854775807 := hCr.2.1
  clear hCr hI ho
  replace hst := Lib.hid hst
  replace hC := Lib.hid hC
  by_cases hf : goneOf p xs < xs.length
  · have hsta := Kept_.start hf
    have hany := any_start hf
    rw [if_pos hf, decide_eq_true hf, Bool.or_true] at hIx
    obtain ⟨i0, hi0⟩ : ∃ i0 : Int, (goneOf p xs : Int) = i0 := ⟨_, rfl⟩
    rw [hi0] at hsta hIx hany
    have hi0a : 0 ≤ i0 := by omega
    have hi0b : i0 < xs.length := by omega
    have hw0 : wrap64 (i0 + 1) = i0 + 1 := by unfold wrap64; omega
    have hneg : (i0 == -1) = false := beq_eq_false_iff_ne.2 (by omega)
    clear hf hi0
    replace hsta := Lib.hid hsta
    replace hany := Lib.hid hany
    replace hIx := Aside0.mk hIx
    go_enter Try.func53, Try.ntmps53
    go_wp2_with fail
    refine hIx.out.mono ?_; rintro e_ w2 ⟨rfl, hR, hfr, hI⟩
    have HO := Aside0.mk hR
    have HF := Aside0.mk (hfr.mono hbw)
    have hI1 : I (t0 || (xs.take (i0 + 1).toNat).any p) w2 := by rw [hany.out, Bool.or_true]; exact hI
    replace hI1 := Aside0.mk hI1
    clear hR hfr hI hIx
    go_wp2
    go_loopw [5, 6] (fun u v wr => ∃ (i j : Int) (cur : List S54), u = .int .i64 i ∧ v = .int .i64 j ∧ Kept_ p xs i j cur ∧ Kd.R k54 54 wr base (fun _ => True) (.slice (some ⟨g, 0, none⟩) xs.length c) cur ∧ Fr base gx w wr ∧ I (t0 || (xs.take j.toNat).any p) wr) (fun _ v _ => xs.length - (intOf v).toNat)
    case atStart => exact ⟨i0, i0 + 1, xs, rfl, rfl, hsta.out, HO.out, HF.out, hI1.out⟩
    case round =>
      clear HO HF hsta hI1 hany
      obtain ⟨i, j, cur, rfl, rfl, hK, hR, hF, hI⟩ := hrel
      have hj0 : 0 ≤ j := by have := hK.i0; have := hK.ij; omega
      by_cases hlt : j < xs.length
      · obtain ⟨⟨q0, q1, q2⟩, _⟩ := own_cells hR j hj0 hlt
        have hgo := Lib.hid (p := ∀ m, rd_T54 xs j = m → p m = true → Kept_ p xs i (j + 1) cur) (fun m hm h => hK.go hlt (by rw [hm]; exact h))
        have hstay := Lib.hid (p := ∀ m, rd_T54 xs j = m → p m = false → Kept_ p xs (i + 1) (j + 1) (cur.set i.toNat m)) (fun m hm h => by rw [← hm]; exact hK.stay hlt (by rw [hm]; exact h))
        have hts := any_take_succ p xs j hj0 hlt
        have hi0 := hK.i0
        have hij := hK.ij
        rw [hK.rd hlt] at q0 q1 q2
        obtain ⟨m, hm⟩ : ∃ m, rd_T54 xs j = m := ⟨_, rfl⟩
        rw [hm] at q0 q1 q2 hts
        replace hgo := Lib.hid (hgo.out m hm)
        replace hstay := Lib.hid (hstay.out m hm)
        replace hts := Lib.hid hts
        clear hm hK
        obtain ⟨w1, hw1⟩ : ∃ w1, wr.alloc (.cells #[.int .u64 m.f0, .string m.f1, .int .u64 m.f2] 54 (0, 0)) = w1 := ⟨_, rfl⟩
        have hB1 : Below wr.heap.size wr w1 := by rw [← hw1]; exact below_alloc (Below.refl _ _) _
        have hsz : w1.heap.size = wr.heap.size + 1 := by rw [← hw1]; exact Array.size_push _
        have hnew := Lib.hid (show w1.heap[wr.heap.size]? = some (.cells #[.int .u64 m.f0, .string m.f1, .int .u64 m.f2] 54 (0, 0)) by rw [← hw1]; exact heap_alloc_new _ _)
        have hbr : base ≤ wr.heap.size := Nat.le_trans hbw hF.size
        have hF1 := Aside0.mk (hF.step hB1 hbr)
        have hI1 := hst.out _ _ w1 hI (fun k hk => hB1.block k (by omega))
        have hc2 := Aside0.mk (hC.out m _ w1 hI1)
        have hR1 := Aside0.mk (Kd.R_below hR hB1)
        obtain ⟨z0, z1, z2⟩ := box_cells3 hnew.out
        clear hI hI1 hR hF
        go_wp2_with fail
        refine hc2.out.mono ?_; rintro e_ w3 ⟨rfl, hf, hI⟩
        rw [Bool.or_assoc, ← hts.out] at hI
        have hxn : ∀ k, gx = some k → k ≠ wr.heap.size := fun k e => by have := hx k e; omega
        have hnew3 := Lib.hid ((hf.block wr.heap.size (by omega) (fun e => hxn _ e.symm rfl)).trans hnew.out)
        have HR := Aside0.mk (R_fr hR1.out hf hx)
        have HF := Aside0.mk (hF1.out.trans (hf.mono (by omega)))
        have hb3 : base ≤ w3.heap.size := Nat.le_trans (Nat.le_trans hbr hB1.size) hf.size
        replace hI := Aside0.mk hI
        clear hc2 hR1 hF1 z0 z1 z2 q0 q1 q2 hf hxn
        obtain ⟨z0, z1, z2⟩ := box_cells3 hnew3.out
        obtain ⟨⟨q0, q1, q2⟩, y0, y1, y2⟩ := own_cells HR.out i hi0 (by omega)
        cases ht : p m with
        | false =>
          have hput := Aside0.mk (own_put HR.out i hi0 (by omega) m)
          have hkn := Lib.hid (hstay.out ht)
          have hw : wrap64 (i + 1) = i + 1 := by unfold wrap64; omega
          have hw2 : wrap64 (j + 1) = j + 1 := by unfold wrap64; omega
          have hrow := Kd.R_base HR.out g rfl
          have HF5 := Aside0.mk (HF.out.grown hput.out.2 hb3 (fun k hk => by injection hk with hk; omega))
          have hI5 := Aside0.mk (hst.out _ _ _ hI.out (fun k hk => hput.out.2.block k (by omega) (fun e => by injection e with e; omega)))
          go_wp2
          go_roundw
          case rel => exact ⟨i + 1, j + 1, cur.set i.toNat m, rfl, rfl, hkn.out, hput.out.1, HF5.out, hI5.out⟩
          case measure => simp [intOf]; omega
        | true =>
          have hkn := Lib.hid (hgo.out ht)
          have hw2 : wrap64 (j + 1) = j + 1 := by unfold wrap64; omega
          go_wp2
          go_roundw
          case rel => exact ⟨i, j + 1, cur, rfl, rfl, hkn.out, HR.out, HF.out, hI.out⟩
          case measure => simp [intOf]; omega
      · have hjn : j = xs.length := by have := hK.jn; omega
        subst hjn
        have hdone := hK.done
        have hi0 := hK.i0
        have hin := hK.ij
        have hcl := hK.len
        rw [Int.toNat_natCast, List.take_length] at hI
        clear hK
        have hbr : base ≤ wr.heap.size := Nat.le_trans hbw hF.size
        obtain ⟨hg0, cur5, hh, hcur⟩ : base ≤ g ∧ ∃ cur, wr.heap[g]? = some (.cells cur 54 (0, 0)) ∧ cur.size = c * 3 := by
          obtain ⟨_, inner, hown, hr⟩ := hR
          rcases hown.2 with ⟨hv, _⟩ | ⟨g', cap', cur, hv, hb, hh, hnc', hcm, hcs, htake⟩
          · cases hv
          · injection hv with hv _ hv'
            injection hv with hv
            injection hv with hv
            subst hv; subst hv'
            exact ⟨hb, cur, hh, hcs⟩
        have hT := Kd.R_take (m := i.toNat) hR (by omega)
        rw [hdone] at hT
        obtain ⟨zs, hzl, hclr0⟩ := run_clear_rows (k := xs.length - i.toNat) hh (o := i.toNat * 3) (by omega) (by omega)
        have hclr : ∀ c', (Builtin.clear_ #[39] 0 #[.slice (some ⟨g, i.toNat * 3, none⟩) (xs.length - i.toNat) c']).run Try.prog wr = .ok (.tuple #[]) (wr.setCells g (i.toNat * 3) zs) := hclr0
        have hfin := R_beyond (W := wr) (d := k54) (n := i.toNat) hT (i.toNat * 3) zs (Nat.le_refl _) (by show i.toNat * 3 + zs.length ≤ c * 3; rw [hzl]; omega)
        have hF6 := Aside0.mk (hF.grown hfin.2 hbr (fun k hk => by injection hk with hk; omega))
        have hI6 := Aside0.mk (hst.out _ _ _ hI (fun k hk => hfin.2.block k (by omega) (fun e => by injection e with e; omega)))
        replace hfin := Aside0.mk hfin
        generalize wr.setCells g (i.toNat * 3) zs = w6 at hclr hfin hF6 hI6
        clear hT hR hF hI hh hcur hclr0 hzl hdone hcl
        have hci : ¬ c = i.toNat := by omega
        go_wp2
        go_ret
        exact ⟨_, rfl, hfin.out.1, hF6.out, hI6.out⟩
  · have h1 : goneOf p xs = xs.length := Nat.le_antisymm List.findIdx_le_length (by omega)
    have hall := (List.findIdx_eq_length (p := p)).1 h1
    have hnone : (xs.filter fun m => !p m) = xs := by
      rw [List.filter_eq_self]
      intro a ha
      have h2 := hall a ha
      simp [h2]
    have hany : xs.any p = false := by
      rw [List.any_eq_false]
      intro a ha
      rw [hall a ha]
      decide
    rw [if_neg hf, decide_eq_false hf, Bool.or_false] at hIx
    rw [hnone, hany, Bool.or_false]
    clear hnone hf hany h1 hall
    replace hIx := Aside0.mk hIx
    go_enter Try.func53, Try.ntmps53
    go_wp2_with fail
    refine hIx.out.mono ?_; rintro e_ w2 ⟨rfl, hR, hfr, hI⟩
    replace hR := Aside0.mk hR
    replace hfr := Aside0.mk (hfr.mono hbw)
    replace hI := Aside0.mk hI
    clear hIx
    go_wp2
    go_ret
    exact ⟨_, rfl, hR.out, hfr.out, hI.out⟩
end Go.Proofs.Ytbmfcikjhnnnbaa.Q
namespace Go.Proofs.Ytbmfcikjhnnnbaa.Q
open Go.RowKit Go.Proofs.YtbmfcikjhnnnbaaW.PrintWords Go.Proofs.YtbmfcikjhnnnbaaW.PrintLast Go.Proofs.YtbmfcikjhnnnbaaW.PrintMore
set_option linter.unusedVariables false
set_option linter.unusedSimpArgs false

theorem indexD_none (A : Option Addr) (c gg gb : Nat) (w : World) : Calls Try.prog 47 #[.slice A 0 c, dv gg gb] w fun e w' => e = .returned (.int .i64 (-1)) ∧ w' = w := by
  go_enter Try.func47, Try.ntmps47
  go_wp2
  go_loopw [8] (fun v wr => v = .int .i64 0 ∧ wr = w) (fun _ _ => 0)
  case atStart => exact ⟨rfl, rfl⟩
  case round =>
    obtain ⟨rfl, rfl⟩ := hrel
    go_wp2
    go_ret
    exact ⟨rfl, rfl⟩
theorem deleteD_none (A : Option Addr) (c gg gb : Nat) (w : World) : Calls Try.prog 53 #[.slice A 0 c, dv gg gb] w fun e w' => e = .returned (.slice A 0 c) ∧ w' = w := by
  have hI := Aside0.mk (indexD_none A c gg gb w)
  go_enter Try.func53, Try.ntmps53
  go_wp2_with fail
  refine hI.out.mono ?_; rintro e_ w2 ⟨rfl, rfl⟩
  clear hI
  go_wp2
  go_ret
  exact ⟨rfl, rfl⟩
theorem without1_calls (F : Nat) (cs : Array Value) (b : Bool) (x : S57) (A : Option Addr) (c : Nat) (m : S54) (gg gb : Nat) (gx : Option Nat) (J : World → Prop) (w : World) (hF : ∀ args W, (callFunc F args).run Try.prog W = .ok (.enter F args) W)
    (hg : w.heap[gg]? = some (.cells #[.func (.func F) #[] cs] 71 (0, 0))) (hb : w.heap[gb]? = some (.cells #[.int .u64 x.f0, .slice A x.f1.length c] 57 (0, 0)))
    (h : ∀ W, Below w.heap.size w W → Calls Try.prog F (#[sv x A c, mv m] ++ cs) W fun e w' => e = .returned (.bool b) ∧ Fr W.heap.size gx W w' ∧ J w') :
    Calls Try.prog 54 #[mv m, .pointer (some ⟨gg, 0, none⟩), .pointer (some ⟨gb, 0, none⟩)] w fun e w' => e = .returned (.bool b) ∧ Fr w.heap.size gx w w' ∧ J w' := by
  obtain ⟨w1, hw1⟩ : ∃ w1, w.alloc (.cells #[.int .u64 m.f0, .string m.f1, .int .u64 m.f2] 54 (0, 0)) = w1 := ⟨_, rfl⟩
  have hb1 : Below w.heap.size w w1 := by rw [← hw1]; exact below_alloc (Below.refl _ _) _
  have hK1 : w1.heap[w.heap.size]? = some (.cells #[.int .u64 m.f0, .string m.f1, .int .u64 m.f2] 54 (0, 0)) := by rw [← hw1]; exact heap_alloc_new _ _
  have hc := Aside0.mk (h w1 hb1)
  have z0 : w1.cell? ⟨gg, 0, none⟩ = some (.func (.func F) #[] cs) := (blk_cell ((hb1.block _ (blk_lt hg)).trans hg) 0).trans rfl
  obtain ⟨z1, z2⟩ := box2 ((hb1.block _ (blk_lt hb)).trans hb)
  obtain ⟨z3, z4, z5⟩ := box3 hK1
  clear hK1 hg hb h
  go_enter Try.func54, Try.ntmps54
  go_wp2_with fail
  refine hc.out.mono ?_; rintro e_ w2 ⟨rfl, hf, hJ⟩
  clear hc z0 z1 z2 z3 z4 z5
  replace hf := Aside0.mk hf
  replace hJ := Aside0.mk hJ
  go_wp2
  go_ret
  exact ⟨rfl, (Fr.of_below hb1).trans (hf.out.mono hb1.size), hJ.out⟩
def keepB (p : S57 → S54 → Bool) (b : S57) : S57 := { f0 := b.f0, f1 := b.f1.filter fun m => !p b m }
/-- The boxes without the mails that are gone, and without those that are empty then. -/
def withoutL (p : S57 → S54 → Bool) (l : List S57) : List S57 := (l.map (keepB p)).filter fun b => decide (0 < b.f1.length)
theorem withoutL_snoc (p : S57 → S54 → Bool) (l : List S57) (i : Nat) (hi : i < l.length) : withoutL p (l.take (i + 1)) = withoutL p (l.take i) ++ if 0 < (keepB p (rd_T57 l (i : Int))).f1.length then [keepB p (rd_T57 l (i : Int))] else [] := by
  unfold withoutL
  rw [List.take_succ_eq_append_getElem hi, List.map_append, List.filter_append, rd57_nat l i hi]
  by_cases h : 0 < (keepB p l[i]).f1.length
  · simp [h]
  · simp [h]
theorem withoutL_le (p : S57 → S54 → Bool) (l : List S57) : (withoutL p l).length ≤ l.length := by
  unfold withoutL
  exact Nat.le_trans (List.length_filter_le _ _) (by rw [List.length_map]; exact Nat.le_refl _)
def anyL (p : S57 → S54 → Bool) (l : List S57) : Bool := l.any fun b => b.f1.any (p b)
theorem anyL_snoc (p : S57 → S54 → Bool) (l : List S57) (i : Nat) (hi : i < l.length) : anyL p (l.take (i + 1)) = (anyL p (l.take i) || (rd_T57 l (i : Int)).f1.any (p (rd_T57 l (i : Int)))) := by
  unfold anyL
  rw [List.take_succ_eq_append_getElem hi, List.any_append, rd57_nat l i hi]
  simp
theorem alloc3 (w : World) (a b c : Obj) : (((w.alloc a).alloc b).alloc c).heap[w.heap.size]? = some a ∧ (((w.alloc a).alloc b).alloc c).heap[w.heap.size + 1]? = some b ∧ (((w.alloc a).alloc b).alloc c).heap[w.heap.size + 2]? = some c ∧ Below w.heap.size w (((w.alloc a).alloc b).alloc c) ∧ (((w.alloc a).alloc b).alloc c).heap.size = w.heap.size + 3 := by
  obtain ⟨h1, h2, h3⟩ := alloc2 w a b
  have hs : ((w.alloc a).alloc b).heap.size = w.heap.size + 2 := by simp
  refine ⟨((below_alloc (Below.refl _ _) c).block _ (blk_lt h1)).trans h1, ((below_alloc (Below.refl _ _) c).block _ (blk_lt h2)).trans h2, ?_, below_alloc h3 c, by simp⟩
  rw [← hs]
  exact heap_alloc_new _ _
set_option maxHeartbeats 4000000 in
set_option maxRecDepth 100000 in
theorem without_calls (F : Nat) (cs : Array Value) (hEnt : ∀ args W, (callFunc F args).run Try.prog W = .ok (.enter F args) W) (p : S57 → S54 → Bool) (gx : Option Nat) (I : Bool → World → Prop) (t0 : Bool) (A0 : Option Addr) (c0 : Nat) (l0 : List S57) (now next : Int) (w0 w : World)
    (hr0 : Kd.C k57 w0 A0 l0.length l0) (hc0 : l0.length ≤ c0) (hlen : l0.length ≤ 1000000) (hwf : ∀ s ∈ l0, s.f1.length ≤ 1000000) (hb : Below w0.heap.size w0 w) (hx : ∀ k, gx = some k → w0.heap.size ≤ k ∧ k < w.heap.size)
    (hst : ∀ t W W', I t W → (∀ k, k < w.heap.size → W'.heap[k]? = W.heap[k]?) → I t W')
    (hG : ∀ (x : S57) A c (m : S54) t W, I t W → Calls Try.prog F (#[sv x A c, mv m] ++ cs) W fun e w' => e = .returned (.bool (p x m)) ∧ Fr W.heap.size gx W w' ∧ I (t || p x m) w') (hI : I t0 w) :
    Calls Try.prog 40 #[rv A0 l0.length c0 now next, .func (.func F) #[] cs] w fun e w' => ∃ v, e = .returned (.agg #[v, .int .u64 now, .int .u64 next]) ∧ Kd.S k57 57 w' w.heap.size (fun _ => True) v (withoutL p l0) ∧ Fr w.heap.size gx w w' ∧ I (t0 || anyL p l0) w' := by
  obtain ⟨w3, hw3⟩ : ∃ w3, ((w.alloc (.cells #[.slice A0 l0.length c0, .int .u64 now, .int .u64 next] 25 (0, 0))).alloc (.cells #[.func (.func F) #[] cs] 71 (0, 0))).alloc (.cells #[.slice none 0 0, .int .u64 0, .int .u64 0] 25 (0, 0)) = w3 := ⟨_, rfl⟩
  obtain ⟨hKr, hKg, hKo, hb3, hs3⟩ := alloc3 w (.cells #[.slice A0 l0.length c0, .int .u64 now, .int .u64 next] 25 (0, 0)) (.cells #[.func (.func F) #[] cs] 71 (0, 0)) (.cells #[.slice none 0 0, .int .u64 0, .int .u64 0] 25 (0, 0))
  rw [hw3] at hKr hKg hKo hb3 hs3
  obtain ⟨z0, z1, z2⟩ := box3 hKr
  have hI3 := hst _ _ w3 hI (fun k hk => hb3.block k hk)
  have hb03 := below_step hb hb3
  clear hI
  obtain ⟨lp, hlp⟩ : ∃ o, withoutL p l0 = o := ⟨_, rfl⟩
  obtain ⟨tf, htf⟩ : ∃ t, (t0 || anyL p l0) = t := ⟨_, rfl⟩
  rw [hlp, htf]
  replace hlp := Lib.hid hlp
  replace htf := Lib.hid htf
  replace hst := Lib.hid hst
  replace hG := Lib.hid hG
  replace hwf := Lib.hid hwf
  replace hs3 := Lib.hid hs3
  go_enter Try.func40, Try.ntmps40
  go_wp2
  go_loopw [5, 12] (fun u v wr => ∃ i : Nat, i ≤ l0.length ∧ v = .int .i64 (i : Int) ∧ Kd.S k57 57 wr w3.heap.size (fun _ => True) u (withoutL p (l0.take i)) ∧ Fr w3.heap.size gx w3 wr ∧ I (t0 || anyL p (l0.take i)) wr) (fun _ v _ => l0.length - (intOf v).toNat)
  case atStart => exact ⟨0, by omega, rfl, Kd.S_nil _ _ _ _ _, Fr.refl _ _ _, by simpa [anyL] using hI3⟩
  case round =>
    obtain ⟨i, hi, rfl, hS, hF, hI⟩ := hrel
    have hx3 : ∀ k, gx = some k → w0.heap.size ≤ k ∧ k < w.heap.size := hx
    have hb0r : Below w0.heap.size w0 wr := hb03.trans (hF.below (by have := hb03.size; omega) (fun k e => (hx k e).1))
    by_cases hlt : (i : Int) < l0.length
    · obtain ⟨ad, A4, c4, eA, q0, q4, hc4, hC4⟩ := at_T57 (Kd.C_below hr0 hb0r) (i : Int) (by omega) hlt
      subst eA
      have hsn := withoutL_snoc p l0 i (by omega)
      have hsa := anyL_snoc p l0 i (by omega)
      have hxl := hwf.out _ (rd57_mem l0 i (by omega))
      have hol := withoutL_le p (l0.take i)
      rw [List.length_take] at hol
      generalize rd_T57 l0 (i : Int) = x at q0 q4 hc4 hC4 hsn hsa hxl
      rw [Int.toNat_natCast] at q0 q4
      obtain ⟨out, hout⟩ : ∃ o, withoutL p (l0.take i) = o := ⟨_, rfl⟩
      obtain ⟨t1, ht1⟩ : ∃ t, (t0 || anyL p (l0.take i)) = t := ⟨_, rfl⟩
      rw [hout] at hS hsn hol
      rw [ht1] at hI
      have hsa2 : (t0 || anyL p (l0.take (i + 1))) = (t1 || x.f1.any (p x)) := by rw [hsa, ← Bool.or_assoc, ht1]
      have hB3 := hF.size
      obtain ⟨w4, hw4⟩ : ∃ w4, wr.alloc (.cells #[.int .u64 0, .slice none 0 0] 57 (0, 0)) = w4 := ⟨_, rfl⟩
      have hb4 : Below wr.heap.size wr w4 := by rw [← hw4]; exact below_alloc (Below.refl _ _) _
      have hK4 : w4.heap[wr.heap.size]? = some (.cells #[.int .u64 0, .slice none 0 0] 57 (0, 0)) := by rw [← hw4]; exact heap_alloc_new _ _
      have z0r : wr.cell? ⟨w.heap.size, 0, none⟩ = some (.slice (some ad) l0.length c0) := (World.cell?_of_block (a := ⟨w.heap.size, 0, none⟩) (hF.block w.heap.size (by have := hs3.out; omega) (fun e => by have := (hx _ e.symm).2; omega))).trans z0
      replace hsn := Lib.hid hsn
      replace hsa2 := Lib.hid hsa2
      replace hout := Lib.hid hout
      replace hI := Aside0.mk hI
      replace hF := Aside0.mk hF
      replace hS := Aside0.mk hS
      replace hC4 := Aside0.mk hC4
      clear hsa ht1 z0 z1 z2
      go_wp2_with ((with_reducible refine gate_store (t := 57) (p := 7) rfl ?_); go_loud (refine wpList_storeBox rfl rfl 57 (.tmp 7) (.tmp 15) rfl (sv x A4 c4) [.int .u64 x.f0, .slice A4 x.f1.length c4] rfl rfl rfl (by kernel_rfl) (by simp [Value.oneCell']) hK4 rfl ?_); intro w5 hK5 hg5 hs5; have hb5 := Aside0.mk (pw_below_grown hb4 _ hb4.size hg5 (fun k hk => by cases hk; exact Nat.le_refl _)); obtain ⟨y0, y1⟩ := box2 hK5; have hcl := Aside0.mk (cloneM_calls A4 c4 x.f1 w5 (Kd.C_below hC4.out hb5.out) hc4 hxl); clear hw4 hb4 hK4 hg5 q0 q4)
      refine hcl.out.mono ?_; rintro e_ w6 ⟨v6, rfl, hR6, hb6⟩
      clear hcl
      have hz5 := Lib.hid (show wr.heap.size < w5.heap.size ∧ w5.heap.size ≤ w6.heap.size from ⟨blk_lt hK5, hb6.size⟩)
      have hK6 := (hb6.block _ (blk_lt hK5)).trans hK5
      have hF6 := Aside0.mk ((Fr.of_below hb5.out).trans ((Fr.of_below hb6).mono hb5.out.size) : Fr wr.heap.size gx wr w6)
      have hKg6 := (hF6.out.block (w.heap.size + 1) (by have := hs3.out; omega) (fun e => by have := (hx _ e.symm).2; omega)).trans ((hF.out.block (w.heap.size + 1) (by have := hs3.out; omega) (fun e => by have := (hx _ e.symm).2; omega)).trans hKg)
      have hI6 := hst.out _ _ w6 hI.out (fun k hk => by
        have h1 := hb5.out.block k (by have := hs3.out; omega)
        have h2 := hb6.block k (by have := hs3.out; have := hz5.out; omega)
        exact h2.trans h1)
      obtain ⟨left, hleft⟩ : ∃ o, (x.f1.filter fun m => !p x m) = o := ⟨_, rfl⟩
      obtain ⟨t2, ht2⟩ : ∃ t, (t1 || x.f1.any (p x)) = t := ⟨_, rfl⟩
      have hll : left.length ≤ x.f1.length := by rw [← hleft]; exact List.length_filter_le _ _
      have hdel : Aside0 (Calls Try.prog 53 #[v6, dv (w.heap.size + 1) wr.heap.size] w6 fun e w' => ∃ v, e = .returned v ∧ Kd.R k54 54 w' w5.heap.size (fun _ => True) v left ∧ Fr w5.heap.size gx w6 w' ∧ (w'.heap[w.heap.size + 1]? = some (.cells #[.func (.func F) #[] cs] 71 (0, 0)) ∧ w'.heap[wr.heap.size]? = some (.cells #[.int .u64 x.f0, .slice A4 x.f1.length c4] 57 (0, 0)) ∧ I t2 w')) := Aside0.mk (by
        rcases Nat.eq_zero_or_pos x.f1.length with h0 | h0
        · have hnil := List.eq_nil_of_length_eq_zero h0
          rw [hnil] at hleft ht2 hR6
          obtain ⟨A, c, rfl⟩ := Kd.R_slice hR6
          refine (deleteD_none A c (w.heap.size + 1) wr.heap.size w6).mono ?_
          rintro e w' ⟨rfl, rfl⟩
          rw [← hleft, ← ht2]
          exact ⟨_, rfl, hR6, Fr.refl _ _ _, hKg6, hK6, by rw [List.any_nil, Bool.or_false]; exact hI6⟩
        · obtain ⟨g, cap, rfl, _⟩ := Kd.R_form hR6 h0
          have hd := deleteD_calls g cap x.f1 (w.heap.size + 1) wr.heap.size w5.heap.size gx (p x) (fun t W => W.heap[w.heap.size + 1]? = some (.cells #[.func (.func F) #[] cs] 71 (0, 0)) ∧ W.heap[wr.heap.size]? = some (.cells #[.int .u64 x.f0, .slice A4 x.f1.length c4] 57 (0, 0)) ∧ I t W) t1 w6 hR6
            (fun k e => by have := (hx k e).2; have := hz5.out; have := hs3.out; omega)
            (fun m t W hW => without1_calls F cs (p x m) x A4 c4 m (w.heap.size + 1) wr.heap.size gx (fun W' => W'.heap[w.heap.size + 1]? = some (.cells #[.func (.func F) #[] cs] 71 (0, 0)) ∧ W'.heap[wr.heap.size]? = some (.cells #[.int .u64 x.f0, .slice A4 x.f1.length c4] 57 (0, 0)) ∧ I (t || p x m) W') W hEnt hW.1 hW.2.1 (fun W' hb' =>
              (hG.out x A4 c4 m t W' (hst.out t W W' hW.2.2 (fun k hk => hb'.block k (by have := blk_lt hW.1; omega)))).mono fun e w' ⟨h1, h2, h3⟩ => ⟨h1, h2,
                (h2.block _ (by have := blk_lt hW.1; have := hb'.size; omega) (fun e => by have := (hx _ e.symm).2; omega)).trans ((hb'.block _ (blk_lt hW.1)).trans hW.1),
                (h2.block _ (by have := blk_lt hW.2.1; have := hb'.size; omega) (fun e => by have := (hx _ e.symm).2; have := hs3.out; omega)).trans ((hb'.block _ (blk_lt hW.2.1)).trans hW.2.1), h3⟩))
            (fun t W W' h1 h2 => ⟨(h2 _ (by have := hs3.out; have := hz5.out; omega)).trans h1.1, (h2 _ hz5.out.1).trans h1.2.1, hst.out t W W' h1.2.2 (fun k hk => h2 k (by have := hs3.out; have := hz5.out; omega))⟩)
            ⟨hKg6, hK6, hI6⟩ hz5.out.2
          rw [hleft, ht2] at hd
          exact hd)
      clear hI6 hKg6 hR6 hK6 hK5 y0 y1 hC4
      replace hleft := Lib.hid hleft
      replace ht2 := Lib.hid ht2
      go_wp2_with fail
      refine hdel.out.mono ?_; rintro e_ w7 ⟨v7, rfl, hR7, hF7, hKg7, hK7, hI7⟩
      clear hdel hb6
      have hF37 := Aside0.mk (hF6.out.trans (hF7.mono (Nat.le_of_lt hz5.out.1)))
      have hS7 := Aside0.mk (Kd.S_step (Kd.S_bound hS.out) (fun k hk _ => hF37.out.block k hk.2.2.1 (fun e => by have := (hx k e.symm).2; have := hk.2.1; have := hs3.out; omega)))
      have hFw7 := Aside0.mk (hF.out.trans (hF37.out.mono hB3))
      have hz7 := Lib.hid (show w5.heap.size ≤ w7.heap.size from Nat.le_trans hz5.out.2 hF7.size)
      obtain ⟨A7, c7, rfl⟩ := Kd.R_slice hR7
      replace hR7 := Aside0.mk hR7
      replace hI7 := Aside0.mk hI7
      obtain ⟨y0, y1⟩ := box2 hK7
      clear hF7 hKg7 hI hF hS hF6
      by_cases hp : 0 < left.length
      · have e1 : decide (0 < (left.length : Int)) = true := decide_eq_true (by omega)
        have e2 : decide (0 < left.length) = true := decide_eq_true hp
        have hsn2 : Hid (withoutL p (l0.take (i + 1)) = out ++ [{ f0 := x.f0, f1 := left }]) := Lib.hid (by rw [hsn.out]; unfold keepB; rw [hleft.out]; rw [if_pos hp])
        obtain ⟨Ao, co, rfl⟩ := Kd.S_slice hS7.out
        have hown : ∀ k, (Value.slice Ao out.length co).ownBlock = some k → w3.heap.size ≤ k ∧ k < wr.heap.size := fun k hk => ((Kd.S_R hS7.out).1 k hk).2.imp_right And.left
        have hRR := Aside0.mk (Kd.R_lower (base' := w3.heap.size) (Kd.R_mono (ok' := fun k => w5.heap.size ≤ k ∧ k < w7.heap.size) (Kd.R_bound hR7.out) (fun k hk => ⟨hk.2.1, hk.2.2.1⟩)) (by have := hz5.out; omega))
        have hSS := Aside0.mk (Kd.S_mono (ok' := fun k => True ∧ ¬ (w5.heap.size ≤ k ∧ k < w7.heap.size)) hS7.out (fun k hk => ⟨trivial, fun h => by have := hk.2.2.1; have := hz5.out; omega⟩))
        replace hown := Lib.hid hown
        go_wp2_with ((with_reducible refine gate_builtin (b := .append) (xs := #[.tmp 24, .tmp 29]) rfl ?_); at_builtin; refine Kd.S_append k57 (w0 := w7) w3.heap.size rfl (.tmp 24) (.tmp 29) 22 57 (.agg #[(.int .u64 0), (.slice none 0 0)]) 32 rfl Try.underlying22 info57 rfl (by decide) (by omega) (.slice Ao out.length co) out ({ f0 := x.f0, f1 := left } : S57) [.int .u64 x.f0, .slice A7 left.length c7] (fun _ => True) (fun k => w5.heap.size ≤ k ∧ k < w7.heap.size) rfl rfl (k57_mkM _ _ _ ({ f0 := x.f0, f1 := left } : S57) hRR.out) (fun k hk => ⟨trivial, fun e => by have := hown.out k e.symm; have := hz5.out; omega⟩) (fun _ _ => trivial) hSS.out (Below.refl _ _) (by have := hz5.out; have := hz7.out; omega) (by omega) ?_; intro v8 w8 hS8 hB8 hg8 hat8; rw [← hsn2.out] at hS8; replace hS8 := Aside0.mk hS8; replace hg8 := Aside0.mk hg8; clear hB8 hat8)
        have hF8 := Aside0.mk (hFw7.out.grown hg8.out (by have := hz5.out; have := hz7.out; omega) (fun k hk => (hown.out k hk).1))
        have hI8 := Aside0.mk (hst.out _ _ w8 hI7.out (fun k hk => hg8.out.block k (by have := hz5.out; have := hz7.out; have := hs3.out; omega) (fun e => by have := (hown.out k e.symm).1; have := hs3.out; omega)))
        rw [← ht2.out, ← hsa2.out] at hI8
        go_roundw
        case rel => exact ⟨i + 1, by omega, by go_num, hS8.out, hF8.out, hI8.out⟩
        case measure => simp [intOf]; omega
      · have e1 : decide (0 < (left.length : Int)) = false := decide_eq_false (by omega)
        have e2 : decide (0 < left.length) = false := decide_eq_false hp
        have hsn2 : Hid (withoutL p (l0.take (i + 1)) = out) := Lib.hid (by rw [hsn.out]; unfold keepB; rw [hleft.out]; rw [if_neg hp, List.append_nil])
        obtain ⟨Ao, co, rfl⟩ := Kd.S_slice hS7.out
        have hS8 := Aside0.mk (Kd.S_mono (ok' := fun _ => True) hS7.out (fun _ _ => trivial))
        rw [← hsn2.out] at hS8
        rw [← ht2.out, ← hsa2.out] at hI7
        have hol2 := hsn2.out
        have hv : (Value.slice Ao out.length co) = .slice Ao (withoutL p (l0.take (i + 1))).length co := by rw [hol2]
        replace hol2 := Lib.hid hol2
        replace hv := Lib.hid hv
        clear hol2
        go_wp2
        go_roundw
        case rel => exact ⟨i + 1, by omega, by go_num, by rw [hsn2.out] at hS8 ⊢; exact hS8.out, hFw7.out, hI7.out⟩
        case measure => simp [intOf]; omega
    · obtain rfl : i = l0.length := by omega
      rw [List.take_length] at hS hI
      have hKr2 := (hF.block w.heap.size (by have := hs3.out; omega) (fun e => by have := (hx _ e.symm).2; omega)).trans hKr
      have hKo2 := (hF.block (w.heap.size + 2) (by have := hs3.out; omega) (fun e => by have := (hx _ e.symm).2; omega)).trans hKo
      rw [hlp.out] at hS
      rw [htf.out] at hI
      obtain ⟨Ao, co, rfl⟩ := Kd.S_slice hS
      have hown : ∀ k, (Value.slice Ao lp.length co).ownBlock = some k → w3.heap.size ≤ k := Kd.S_base hS
      have hB3 := hF.size
      replace hown := Lib.hid hown
      replace hS := Aside0.mk hS
      replace hI := Aside0.mk hI
      replace hF := Aside0.mk hF
      clear z0 z1 z2 hKr hKo
      obtain ⟨z0, z1, z2⟩ := box3 hKr2
      go_wp2_with (first
        | ((with_reducible refine gate_store (t := 22) (p := 33) rfl ?_); go_loud (refine wpList_storeField rfl rfl 22 (.tmp 33) (.tmp 32) rfl 0 (.slice Ao lp.length co) #[.slice Ao lp.length co, .int .u64 now, .int .u64 next] rfl rfl rfl (by kernel_rfl) rfl hKr2 (Nat.le_of_ble_eq_true rfl) rfl ?_; intro w4 hK4 hg4 hs4; clear z0 z1 z2 hs4; obtain ⟨z0, z1, z2⟩ := box3 hK4; have hK24 := (hg4.block _ (blk_lt hKo2) (fun e => by injection e with e; omega)).trans hKo2))
        | ((with_reducible refine gate_store (t := 25) (p := 4) rfl ?_); go_loud (refine wpList_storeBox rfl rfl 25 (.tmp 4) (.tmp 34) rfl (rv Ao lp.length co now next) [.slice Ao lp.length co, .int .u64 now, .int .u64 next] rfl rfl rfl (by kernel_rfl) (by simp [Value.oneCell']) hK24 rfl ?_; intro w5 hK5 hg5 hs5; clear z0 z1 z2 hs5; obtain ⟨z0, z1, z2⟩ := box3 hK5)))
      have hS5 := Kd.S_mono (ok' := fun _ => True) (Kd.S_grown (Kd.S_grown (Kd.S_bound hS.out) hg4 (fun k hk e => by injection e with e; have := hk.2.1; have := hs3.out; omega)) hg5 (fun k hk e => by injection e with e; have := hk.2.1; have := hs3.out; omega)) (fun _ _ => trivial)
      have hFF : Fr w.heap.size gx w w5 := (Fr.of_below hb3).trans (((hF.out.mono (B' := w.heap.size) hb3.size).grown hg4 (by have := hb3.size; omega) (fun k hk => by cases hk; exact Nat.le_refl _)).grown hg5 (by have := hb3.size; have := hg4.size; omega) (fun k hk => by cases hk; omega))
      have hII := hst.out _ _ w5 (hst.out _ _ w4 hI.out (fun k hk => hg4.block k (by have := hs3.out; omega) (fun e => by injection e with e; omega))) (fun k hk => hg5.block k (by have := hs3.out; have := hg4.size; omega) (fun e => by injection e with e; omega))
      refine bodyPost_ret (v := rv Ao lp.length co now next) (by simp [results, Try.results40, go_sem, z0, z1, z2]) rfl ?_
      exact ⟨_, rfl, Kd.S_lower hS5 (by have := hs3.out; omega), hFF, hII⟩
end Go.Proofs.Ytbmfcikjhnnnbaa.Q
namespace Go.Proofs.Ytbmfcikjhnnnbaa.Q
open Go.RowKit Go.Proofs.YtbmfcikjhnnnbaaW.PrintWords Go.Proofs.YtbmfcikjhnnnbaaW.PrintLast Go.Proofs.YtbmfcikjhnnnbaaW.PrintMore
set_option linter.unusedVariables false
set_option linter.unusedSimpArgs false

theorem enter41 (args : Array Value) (W : World) : (callFunc 41 args).run Try.prog W = .ok (.enter 41 args) W := by
  have h := Try.func41
  simp [callFunc, h, Try.f41, Sem.run_bind]
theorem enter43 (args : Array Value) (W : World) : (callFunc 43 args).run Try.prog W = .ok (.enter 43 args) W := by
  have h := Try.func43
  simp [callFunc, h, Try.f43, Sem.run_bind]
def oldB (now : Int) (m : S54) : Bool := decide (50 < IntKind.u64.wrap (now - m.f2))
theorem tick1_calls (x : S57) (A : Option Addr) (c : Nat) (m : S54) (gr : Nat) (rs : Value) (now next : Int) (w : World) (hK : w.heap[gr]? = some (.cells #[rs, .int .u64 now, .int .u64 next] 25 (0, 0))) :
    Calls Try.prog 41 #[sv x A c, mv m, .pointer (some ⟨gr, 0, none⟩)] w fun e w' => e = .returned (.bool (oldB now m)) ∧ Below w.heap.size w w' := by
  obtain ⟨w1, hw1⟩ : ∃ w1, w.alloc (.cells #[.int .u64 x.f0, .slice A x.f1.length c] 57 (0, 0)) = w1 := ⟨_, rfl⟩
  have hb1 : Below w.heap.size w w1 := by rw [← hw1]; exact below_alloc (Below.refl _ _) _
  obtain ⟨w2, hw2⟩ : ∃ w2, w1.alloc (.cells #[.int .u64 m.f0, .string m.f1, .int .u64 m.f2] 54 (0, 0)) = w2 := ⟨_, rfl⟩
  have hb2 : Below w1.heap.size w1 w2 := by rw [← hw2]; exact below_alloc (Below.refl _ _) _
  have hK2 : w2.heap[w1.heap.size]? = some (.cells #[.int .u64 m.f0, .string m.f1, .int .u64 m.f2] 54 (0, 0)) := by rw [← hw2]; exact heap_alloc_new _ _
  have hB := below_step hb1 hb2
  obtain ⟨z0, z1, z2⟩ := box3 hK2
  obtain ⟨y0, y1, y2⟩ := box3 ((hB.block _ (blk_lt hK)).trans hK)
  clear hK2 hK
  unfold oldB
  by_cases h : 50 < IntKind.u64.wrap (now - m.f2)
  · have e : decide (50 < IntKind.u64.wrap (now - m.f2)) = true := decide_eq_true h
    rw [e]
    go_enter Try.func41, Try.ntmps41
    go_wp2
    go_ret
    exact ⟨rfl, hB⟩
  · have e : decide (50 < IntKind.u64.wrap (now - m.f2)) = false := decide_eq_false h
    rw [e]
    go_enter Try.func41, Try.ntmps41
    go_wp2
    go_ret
    exact ⟨rfl, hB⟩
/-- The boxes of Ack's function: the user, the number, whether it was met. -/
def Met (gu gi gm : Nat) (u id : Int) (t : Bool) (W : World) : Prop := W.heap[gu]? = some (.cells #[.int .u64 u] 23 (0, 0)) ∧ W.heap[gi]? = some (.cells #[.int .u64 id] 23 (0, 0)) ∧ W.heap[gm]? = some (.cells #[.bool t] 4 (0, 0)) ∧ gu ≠ gm ∧ gi ≠ gm
theorem box1 {W : World} {g : Nat} {a : Value} {t : Nat} (h : W.heap[g]? = some (.cells #[a] t (0, 0))) : W.cell? ⟨g, 0, none⟩ = some a := (blk_cell h 0).trans rfl
def ackB (u id : Int) (x : S57) (m : S54) : Bool := (x.f0 == u) && (m.f0 == id)
set_option maxHeartbeats 1000000 in
theorem ack1_calls (x : S57) (A : Option Addr) (c : Nat) (m : S54) (gu gi gm : Nat) (u id : Int) (t : Bool) (w : World) (hM : Met gu gi gm u id t w) :
    Calls Try.prog 43 #[sv x A c, mv m, .pointer (some ⟨gu, 0, none⟩), .pointer (some ⟨gi, 0, none⟩), .pointer (some ⟨gm, 0, none⟩)] w fun e w' => e = .returned (.bool (ackB u id x m)) ∧ Fr w.heap.size (some gm) w w' ∧ Met gu gi gm u id (t || ackB u id x m) w' := by
  obtain ⟨hgu, hgi, hgm, hne1, hne2⟩ := hM
  obtain ⟨w1, hw1⟩ : ∃ w1, w.alloc (.cells #[.int .u64 x.f0, .slice A x.f1.length c] 57 (0, 0)) = w1 := ⟨_, rfl⟩
  have hb1 : Below w.heap.size w w1 := by rw [← hw1]; exact below_alloc (Below.refl _ _) _
  have hK1 : w1.heap[w.heap.size]? = some (.cells #[.int .u64 x.f0, .slice A x.f1.length c] 57 (0, 0)) := by rw [← hw1]; exact heap_alloc_new _ _
  obtain ⟨w2, hw2⟩ : ∃ w2, w1.alloc (.cells #[.int .u64 m.f0, .string m.f1, .int .u64 m.f2] 54 (0, 0)) = w2 := ⟨_, rfl⟩
  have hb2 : Below w1.heap.size w1 w2 := by rw [← hw2]; exact below_alloc (Below.refl _ _) _
  have hK2 : w2.heap[w1.heap.size]? = some (.cells #[.int .u64 m.f0, .string m.f1, .int .u64 m.f2] 54 (0, 0)) := by rw [← hw2]; exact heap_alloc_new _ _
  have hB := below_step hb1 hb2
  obtain ⟨z0, z1, z2⟩ := box3 hK2
  obtain ⟨x0, x1⟩ := box2 ((hb2.block _ (blk_lt hK1)).trans hK1)
  have hgu2 := (hB.block _ (blk_lt hgu)).trans hgu
  have hgi2 := (hB.block _ (blk_lt hgi)).trans hgi
  have hgm2 := (hB.block _ (blk_lt hgm)).trans hgm
  have y0 := box1 hgu2
  have y1 := box1 hgi2
  have y2 := box1 hgm2
  have hgl := blk_lt hgm
  clear hK1 hK2 hgu hgi hgm
  have hfin : ∀ (b : Bool) (W : World), W.heap[gm]? = some (.cells #[.bool b] 4 (0, 0)) → w2.grownBy W (some gm) → Fr w.heap.size (some gm) w W ∧ Met gu gi gm u id b W := fun b W h1 h2 =>
    ⟨(Fr.of_below hB).trans ⟨h2.os, h2.tape, h2.output, h2.size, fun k hk hn => h2.block k (by have := hB.size; omega) hn⟩, (h2.block _ (blk_lt hgu2) (fun e => by injection e with e; exact hne1 e)).trans hgu2, (h2.block _ (blk_lt hgi2) (fun e => by injection e with e; exact hne2 e)).trans hgi2, h1, hne1, hne2⟩
  replace hfin := Lib.hid hfin
  replace hB := Lib.hid hB
  clear hgu2 hgi2 hb1 hb2
  unfold ackB
  cases h0 : (x.f0 == u) with
  | false =>
    cases t with
    | false =>
      go_enter Try.func43, Try.ntmps43
      go_wp2_with ((with_reducible refine gate_store (t := 4) (p := 4) rfl ?_); go_loud (refine wpList_storeBox rfl rfl 4 (.tmp 4) (.tmp 22) rfl (.bool false) [.bool false] rfl rfl rfl (by kernel_rfl) (by simp [Value.oneCell']) hgm2 rfl ?_); intro wz hKz hgz hsz)
      go_ret
      obtain ⟨hf, hm⟩ := hfin.out _ _ hKz hgz
      exact ⟨rfl, hf, hm⟩
    | true =>
      go_enter Try.func43, Try.ntmps43
      go_wp2_with ((with_reducible refine gate_store (t := 4) (p := 4) rfl ?_); go_loud (refine wpList_storeBox rfl rfl 4 (.tmp 4) (.tmp 22) rfl (.bool true) [.bool true] rfl rfl rfl (by kernel_rfl) (by simp [Value.oneCell']) hgm2 rfl ?_); intro wz hKz hgz hsz)
      go_ret
      obtain ⟨hf, hm⟩ := hfin.out _ _ hKz hgz
      exact ⟨rfl, hf, hm⟩
  | true =>
    cases h1 : (m.f0 == id) with
    | false =>
      cases t with
      | false =>
        go_enter Try.func43, Try.ntmps43
        go_wp2_with ((with_reducible refine gate_store (t := 4) (p := 4) rfl ?_); go_loud (refine wpList_storeBox rfl rfl 4 (.tmp 4) (.tmp 22) rfl (.bool false) [.bool false] rfl rfl rfl (by kernel_rfl) (by simp [Value.oneCell']) hgm2 rfl ?_); intro wz hKz hgz hsz)
        go_ret
        obtain ⟨hf, hm⟩ := hfin.out _ _ hKz hgz
        exact ⟨rfl, hf, hm⟩
      | true =>
        go_enter Try.func43, Try.ntmps43
        go_wp2_with ((with_reducible refine gate_store (t := 4) (p := 4) rfl ?_); go_loud (refine wpList_storeBox rfl rfl 4 (.tmp 4) (.tmp 22) rfl (.bool true) [.bool true] rfl rfl rfl (by kernel_rfl) (by simp [Value.oneCell']) hgm2 rfl ?_); intro wz hKz hgz hsz)
        go_ret
        obtain ⟨hf, hm⟩ := hfin.out _ _ hKz hgz
        exact ⟨rfl, hf, hm⟩
    | true =>
      cases t with
      | false =>
        go_enter Try.func43, Try.ntmps43
        go_wp2_with ((with_reducible refine gate_store (t := 4) (p := 4) rfl ?_); go_loud (refine wpList_storeBox rfl rfl 4 (.tmp 4) (.tmp 22) rfl (.bool true) [.bool true] rfl rfl rfl (by kernel_rfl) (by simp [Value.oneCell']) hgm2 rfl ?_); intro wz hKz hgz hsz)
        go_ret
        obtain ⟨hf, hm⟩ := hfin.out _ _ hKz hgz
        exact ⟨rfl, hf, hm⟩
      | true =>
        go_enter Try.func43, Try.ntmps43
        go_wp2_with ((with_reducible refine gate_store (t := 4) (p := 4) rfl ?_); go_loud (refine wpList_storeBox rfl rfl 4 (.tmp 4) (.tmp 22) rfl (.bool true) [.bool true] rfl rfl rfl (by kernel_rfl) (by simp [Value.oneCell']) hgm2 rfl ?_); intro wz hKz hgz hsz)
        go_ret
        obtain ⟨hf, hm⟩ := hfin.out _ _ hKz hgz
        exact ⟨rfl, hf, hm⟩
/-- What relay.Tick answers. -/
def TickE (l : List S57) (now next ticks : Int) (e : Ending) (w' : World) : Prop :=
  (relB l now next = false ∧ e = .returned (.tuple #[zerR, .int .i64 1])) ∨
  (relB l now next = true ∧ (1000 < ticks ∨ 4611686018427387904 ≤ now + ticks) ∧ e = .returned (.tuple #[zerR, .int .i64 2])) ∨
  (relB l now next = true ∧ ticks ≤ 1000 ∧ now + ticks < 4611686018427387904 ∧ ∃ (lp : List S57) (A : Option Addr) (c : Nat), withoutL (fun _ m => oldB (now + ticks) m) l = lp ∧ e = .returned (.tuple #[rv A lp.length c (now + ticks) next, .int .i64 0]) ∧ lp.length ≤ c ∧ k57.C w' A lp.length lp)
/-- What relay.Ack answers. -/
def AckE (l : List S57) (now next u id : Int) (e : Ending) (w' : World) : Prop :=
  (relB l now next = false ∧ e = .returned (.tuple #[zerR, .int .i64 1])) ∨
  (relB l now next = true ∧ anyL (ackB u id) l = false ∧ e = .returned (.tuple #[zerR, .int .i64 5])) ∨
  (relB l now next = true ∧ anyL (ackB u id) l = true ∧ ∃ (lp : List S57) (A : Option Addr) (c : Nat), withoutL (ackB u id) l = lp ∧ e = .returned (.tuple #[rv A lp.length c now next, .int .i64 0]) ∧ lp.length ≤ c ∧ k57.C w' A lp.length lp)
theorem rel_now {l : List S57} {now next : Int} (h : relB l now next = true) : now < 4611686018427387904 := of_decide_eq_true (Bool.and_eq_true_iff.1 (Bool.and_eq_true_iff.1 (Bool.and_eq_true_iff.1 h).1).2).1
set_option maxHeartbeats 4000000 in
set_option maxRecDepth 100000 in
theorem tick_callsS (S : Nat → Prop) (A0 : Option Addr) (c0 : Nat) (l0 : List S57) (now next ticks : Int) (w : World) (hS : ∀ k, S k → k < w.heap.size) (hr0 : Kd.C k57 w A0 l0.length l0) (hc0 : l0.length ≤ c0) (hlen : l0.length ≤ 1000000) (hwf : wfB l0) (hnow : 0 ≤ now ∧ now ≤ 18446744073709551615) (htk : 0 ≤ ticks ∧ ticks ≤ 18446744073709551615) :
    Calls Try.prog 17 #[rv A0 l0.length c0 now next, .int .u64 ticks] w fun e w' => TickE l0 now next ticks e (bs S w') ∧ Below w.heap.size w w' := by
  replace hS := Lib.hid hS
  obtain ⟨w1, hw1⟩ : ∃ w1, w.alloc (.cells #[.slice A0 l0.length c0, .int .u64 now, .int .u64 next] 25 (0, 0)) = w1 := ⟨_, rfl⟩
  have hb1 : Below w.heap.size w w1 := by rw [← hw1]; exact below_alloc (Below.refl _ _) _
  have hs1 : w1.heap.size = w.heap.size + 1 := by rw [← hw1]; simp
  have hK1 : w1.heap[w.heap.size]? = some (.cells #[.slice A0 l0.length c0, .int .u64 now, .int .u64 next] 25 (0, 0)) := by rw [← hw1]; exact heap_alloc_new _ _
  obtain ⟨w2, hw2⟩ : ∃ w2, w1.alloc (.cells #[.slice none 0 0, .int .u64 0, .int .u64 0] 25 (0, 0)) = w2 := ⟨_, rfl⟩
  have hb2 : Below w1.heap.size w1 w2 := by rw [← hw2]; exact below_alloc (Below.refl _ _) _
  have hs2 : w2.heap.size = w.heap.size + 2 := by rw [← hw2]; simp [hs1]
  have hK2 : w2.heap[w.heap.size + 1]? = some (.cells #[.slice none 0 0, .int .u64 0, .int .u64 0] 25 (0, 0)) := by rw [← hs1, ← hw2]; exact heap_alloc_new _ _
  have hK12 := (hb2.block _ (blk_lt hK1)).trans hK1
  have hB2 := Aside0.mk (below_step hb1 hb2)
  obtain ⟨z0, z1, z2⟩ := box3 hK12
  have hrc := Aside0.mk (right_calls A0 c0 l0 now next w2 (Kd.C_below hr0 hB2.out) hwf hnow)
  replace hs2 := Lib.hid hs2
  clear hb1 hb2 hK1
  go_enter Try.func17, Try.ntmps17
  go_wp2_with fail
  refine hrc.out.mono ?_; rintro e_ w3 ⟨rfl, hb3⟩
  clear hrc z0 z1 z2
  have hK13 := (hb3.block _ (blk_lt hK12)).trans hK12
  have hK23 := (hb3.block _ (blk_lt hK2)).trans hK2
  have hB3 := Aside0.mk (below_step hB2.out hb3)
  have hz3 := Lib.hid (show w.heap.size + 2 ≤ w3.heap.size by have := hs2.out; have := hb3.size; omega)
  clear hK12 hK2
  obtain ⟨z0, z1, z2⟩ := box3 hK13
  cases hR : relB l0 now next with
  | false =>
    have hfin : ∀ W, Hid (TickE l0 now next ticks (.returned (.tuple #[zerR, .int .i64 1])) W) := fun W => Lib.hid (.inl ⟨hR, rfl⟩)
    go_wp2_with ((with_reducible refine gate_store (t := 25) (p := 4) rfl ?_); go_loud (refine wpList_storeBox rfl rfl 25 (.tmp 4) (.tmp 10) rfl zerR [.slice none 0 0, .int .u64 0, .int .u64 0] rfl rfl rfl (by kernel_rfl) (by simp [Value.oneCell']) hK23 rfl ?_); intro wz hKz hgz hsz)
    have hBz : Below w.heap.size w wz := hB3.out.grown hgz hB3.out.size (fun k hk => by cases hk; omega)
    obtain ⟨y0, y1, y2⟩ := box3 hKz
    refine bodyPost_ret (v := .tuple #[zerR, .int .i64 1]) (by simp [results, Try.results17, go_sem, y0, y1, y2]) rfl ?_
    exact ⟨(hfin _).out, hBz⟩
  | true =>
    have hn2 := rel_now hR
    have hsmall : ¬ (1000 < ticks ∨ 4611686018427387904 ≤ now + ticks) → ticks ≤ 1000 ∧ now + ticks < 4611686018427387904 := fun h => by omega
    by_cases hbig : 1000 < ticks ∨ 4611686018427387904 ≤ now + ticks
    · have hfin : ∀ W, Hid (TickE l0 now next ticks (.returned (.tuple #[zerR, .int .i64 2])) W) := fun W => Lib.hid (.inr (.inl ⟨hR, hbig, rfl⟩))
      by_cases ht : 1000 < ticks
      · have e1 : decide (1000 < ticks) = true := decide_eq_true ht
        clear hbig hsmall
        go_wp2_with ((with_reducible refine gate_store (t := 25) (p := 4) rfl ?_); go_loud (refine wpList_storeBox rfl rfl 25 (.tmp 4) (.tmp 21) rfl zerR [.slice none 0 0, .int .u64 0, .int .u64 0] rfl rfl rfl (by kernel_rfl) (by simp [Value.oneCell']) hK23 rfl ?_); intro wz hKz hgz hsz)
        have hBz : Below w.heap.size w wz := hB3.out.grown hgz hB3.out.size (fun k hk => by cases hk; omega)
        obtain ⟨y0, y1, y2⟩ := box3 hKz
        refine bodyPost_ret (v := .tuple #[zerR, .int .i64 2]) (by simp [results, Try.results17, go_sem, y0, y1, y2]) rfl ?_
        exact ⟨(hfin _).out, hBz⟩
      · have e1 : decide (1000 < ticks) = false := decide_eq_false ht
        have hwp : IntKind.u64.wrap (now + ticks) = now + ticks := by show (now + ticks) % 18446744073709551616 = now + ticks; omega
        have e2 : decide (4611686018427387904 ≤ IntKind.u64.wrap (now + ticks)) = true := by rw [hwp]; exact decide_eq_true (by omega)
        have e3 : decide (4611686018427387904 ≤ now + ticks) = true := decide_eq_true (by omega)
        clear hbig hsmall hwp
        go_wp2_with ((with_reducible refine gate_store (t := 25) (p := 4) rfl ?_); go_loud (refine wpList_storeBox rfl rfl 25 (.tmp 4) (.tmp 21) rfl zerR [.slice none 0 0, .int .u64 0, .int .u64 0] rfl rfl rfl (by kernel_rfl) (by simp [Value.oneCell']) hK23 rfl ?_); intro wz hKz hgz hsz)
        have hBz : Below w.heap.size w wz := hB3.out.grown hgz hB3.out.size (fun k hk => by cases hk; omega)
        obtain ⟨y0, y1, y2⟩ := box3 hKz
        refine bodyPost_ret (v := .tuple #[zerR, .int .i64 2]) (by simp [results, Try.results17, go_sem, y0, y1, y2]) rfl ?_
        exact ⟨(hfin _).out, hBz⟩
    · obtain ⟨ht, hsum⟩ := hsmall hbig
      have e1 : decide (1000 < ticks) = false := decide_eq_false (by omega)
      have hwp : IntKind.u64.wrap (now + ticks) = now + ticks := by show (now + ticks) % 18446744073709551616 = now + ticks; omega
      have e2 : decide (4611686018427387904 ≤ IntKind.u64.wrap (now + ticks)) = false := by rw [hwp]; exact decide_eq_false (by omega)
      have hfin : Hid (∀ lp A c W, withoutL (fun _ m => oldB (now + ticks) m) l0 = lp → lp.length ≤ c → k57.C W A lp.length lp → TickE l0 now next ticks (.returned (.tuple #[rv A lp.length c (now + ticks) next, .int .i64 0])) W) := Lib.hid fun lp A c W h0 h1 h2 => .inr (.inr ⟨hR, ht, hsum, lp, A, c, h0, rfl, h1, h2⟩)
      have e3 : decide (4611686018427387904 ≤ now + ticks) = false := decide_eq_false (by omega)
      clear hbig hsmall hwp hsum
      go_wp2_with ((with_reducible refine gate_store (t := 23) (p := 26) rfl ?_); go_loud (refine wpList_storeField rfl rfl 23 (.tmp 26) (.tmp 25) rfl 1 (.int .u64 (now + ticks)) #[.slice A0 l0.length c0, .int .u64 (now + ticks), .int .u64 next] rfl rfl rfl (by kernel_rfl) rfl hK13 (Nat.le_of_ble_eq_true rfl) rfl ?_; intro w4 hK14 hg4 hs4; clear z0 z1 z2 hK13; obtain ⟨z0, z1, z2⟩ := box3 hK14))
      have hK24 := (hg4.block _ (blk_lt hK23) (fun e => by injection e with e; omega)).trans hK23
      have hB4 : Below w.heap.size w w4 := hB3.out.grown hg4 hB3.out.size (fun k hk => by cases hk; exact Nat.le_refl _)
      have hlt4 := blk_lt hK14
      have hwo := Aside0.mk (without_calls 41 #[.pointer (some ⟨w.heap.size, 0, none⟩)] enter41 (fun _ m => oldB (now + ticks) m) none (fun _ W => W.heap[w.heap.size]? = some (.cells #[.slice A0 l0.length c0, .int .u64 (now + ticks), .int .u64 next] 25 (0, 0))) false A0 c0 l0 (now + ticks) next w w4 hr0 hc0 hlen (fun s hs => (hwf s hs).1) hB4 (fun k hk => by cases hk)
        (fun t W W' h1 h2 => (h2 _ hlt4).trans h1)
        (fun x A c m t W hW => (tick1_calls x A c m w.heap.size _ (now + ticks) next W hW).mono fun e w' ⟨h1, h2⟩ => ⟨h1, Fr.of_below h2, (h2.block _ (blk_lt hW)).trans hW⟩) hK14)
      replace hB4 := Aside0.mk hB4
      have hg4s := hg4.size
      have hz3' := hz3.out
      clear hK14
      go_wp2_with fail
      refine hwo.out.mono ?_; rintro e_ w5 ⟨v5, rfl, hS5, hF5, _⟩
      clear hwo
      obtain ⟨lp, hlp⟩ : ∃ o, withoutL (fun _ m => oldB (now + ticks) m) l0 = o := ⟨_, rfl⟩
      rw [hlp] at hS5
      obtain ⟨A5, c5, rfl, hc5, _⟩ := Kd.S_reads hS5
      have hK25 := (hF5.block _ (blk_lt hK24) (fun e => by cases e)).trans hK24
      have hB5 := Aside0.mk (hB4.out.trans (hF5.below (B' := w.heap.size) (by omega) (fun k hk => by cases hk)))
      have hlt5 := hF5.size
      replace hlp := Lib.hid hlp
      replace hS5 := Aside0.mk hS5
      clear hK24 hF5 z0 z1 z2
      go_wp2_with ((with_reducible refine gate_store (t := 25) (p := 4) rfl ?_); go_loud (refine wpList_storeBox rfl rfl 25 (.tmp 4) (.tmp 29) rfl (rv A5 lp.length c5 (now + ticks) next) [.slice A5 lp.length c5, .int .u64 (now + ticks), .int .u64 next] rfl rfl rfl (by kernel_rfl) (by simp [Value.oneCell']) hK25 rfl ?_); intro wz hKz hgz hsz)
      have hBz : Below w.heap.size w wz := hB5.out.grown hgz hB5.out.size (fun k hk => by cases hk; omega)
      have hSz := Kd.S_grown (Kd.S_bound hS5.out) hgz (fun k hk e => by injection e with e; have := hk.2.1; omega)
      obtain ⟨y0, y1, y2⟩ := box3 hKz
      refine bodyPost_ret (v := .tuple #[rv A5 lp.length c5 (now + ticks) next, .int .i64 0]) (by simp [results, Try.results17, go_sem, y0, y1, y2]) rfl ?_
      exact ⟨hfin.out lp A5 c5 (bs S wz) hlp.out hc5 (Kd.S_reads' (bs_S hSz (fun k hk => by have := hS.out k hk; omega))).2.2, hBz⟩
theorem tickE_sees {l : List S57} {now next ticks : Int} {e : Ending} {w w' : World} (hs : Sees w w') (h : TickE l now next ticks e w) : TickE l now next ticks e w' := by
  rcases h with h | h | ⟨a, b, c, lp, A, c', h4, h5, h6, h7⟩
  · exact .inl h
  · exact .inr (.inl h)
  · exact .inr (.inr ⟨a, b, c, lp, A, c', h4, h5, h6, sees_B57 hs h7⟩)
theorem tick_calls (A0 : Option Addr) (c0 : Nat) (l0 : List S57) (now next ticks : Int) (w : World) (hr0 : Kd.C k57 w A0 l0.length l0) (hc0 : l0.length ≤ c0) (hlen : l0.length ≤ 1000000) (hwf : wfB l0) (hnow : 0 ≤ now ∧ now ≤ 18446744073709551615) (htk : 0 ≤ ticks ∧ ticks ≤ 18446744073709551615) :
    Calls Try.prog 17 #[rv A0 l0.length c0 now next, .int .u64 ticks] w fun e w' => TickE l0 now next ticks e w' ∧ Below w.heap.size w w' :=
  (tick_callsS (fun _ => False) A0 c0 l0 now next ticks w (fun _ h => h.elim) hr0 hc0 hlen hwf hnow htk).mono fun e w' h => ⟨tickE_sees bs_sees h.1, h.2⟩
set_option maxHeartbeats 4000000 in
set_option maxRecDepth 100000 in
theorem ack_callsS (S : Nat → Prop) (A0 : Option Addr) (c0 : Nat) (l0 : List S57) (now next u id : Int) (w : World) (hS : ∀ k, S k → k < w.heap.size) (hr0 : Kd.C k57 w A0 l0.length l0) (hc0 : l0.length ≤ c0) (hlen : l0.length ≤ 1000000) (hwf : wfB l0) (hnow : 0 ≤ now ∧ now ≤ 18446744073709551615) :
    Calls Try.prog 20 #[rv A0 l0.length c0 now next, .int .u64 u, .int .u64 id] w fun e w' => AckE l0 now next u id e (bs S w') ∧ Below w.heap.size w w' := by
  replace hS := Lib.hid hS
  obtain ⟨w1, hw1⟩ : ∃ w1, w.alloc (.cells #[.slice A0 l0.length c0, .int .u64 now, .int .u64 next] 25 (0, 0)) = w1 := ⟨_, rfl⟩
  have hb1 : Below w.heap.size w w1 := by rw [← hw1]; exact below_alloc (Below.refl _ _) _
  have hs1 : w1.heap.size = w.heap.size + 1 := by rw [← hw1]; simp
  have hK1 : w1.heap[w.heap.size]? = some (.cells #[.slice A0 l0.length c0, .int .u64 now, .int .u64 next] 25 (0, 0)) := by rw [← hw1]; exact heap_alloc_new _ _
  obtain ⟨w2, hw2⟩ : ∃ w2, w1.alloc (.cells #[.int .u64 u] 23 (0, 0)) = w2 := ⟨_, rfl⟩
  have hb2 : Below w1.heap.size w1 w2 := by rw [← hw2]; exact below_alloc (Below.refl _ _) _
  have hs2 : w2.heap.size = w.heap.size + 2 := by rw [← hw2]; simp [hs1]
  have hK2 : w2.heap[w.heap.size + 1]? = some (.cells #[.int .u64 u] 23 (0, 0)) := by rw [← hs1, ← hw2]; exact heap_alloc_new _ _
  obtain ⟨w3, hw3⟩ : ∃ w3, w2.alloc (.cells #[.int .u64 id] 23 (0, 0)) = w3 := ⟨_, rfl⟩
  have hb3 : Below w2.heap.size w2 w3 := by rw [← hw3]; exact below_alloc (Below.refl _ _) _
  have hs3 : w3.heap.size = w.heap.size + 3 := by rw [← hw3]; simp [hs2]
  have hK3 : w3.heap[w.heap.size + 2]? = some (.cells #[.int .u64 id] 23 (0, 0)) := by rw [← hs2, ← hw3]; exact heap_alloc_new _ _
  obtain ⟨w4, hw4⟩ : ∃ w4, w3.alloc (.cells #[.slice none 0 0, .int .u64 0, .int .u64 0] 25 (0, 0)) = w4 := ⟨_, rfl⟩
  have hb4 : Below w3.heap.size w3 w4 := by rw [← hw4]; exact below_alloc (Below.refl _ _) _
  have hs4 : w4.heap.size = w.heap.size + 4 := by rw [← hw4]; simp [hs3]
  have hK4 : w4.heap[w.heap.size + 3]? = some (.cells #[.slice none 0 0, .int .u64 0, .int .u64 0] 25 (0, 0)) := by rw [← hs3, ← hw4]; exact heap_alloc_new _ _
  have hK14 := (hb4.block _ (by omega)).trans ((hb3.block _ (by omega)).trans ((hb2.block _ (blk_lt hK1)).trans hK1))
  have hK24 := (hb4.block _ (by omega)).trans ((hb3.block _ (by omega)).trans hK2)
  have hK34 := (hb4.block _ (by omega)).trans hK3
  have hB4 := Aside0.mk (below_step (below_step (below_step hb1 hb2) hb3) hb4)
  obtain ⟨z0, z1, z2⟩ := box3 hK14
  have hrc := Aside0.mk (right_calls A0 c0 l0 now next w4 (Kd.C_below hr0 hB4.out) hwf hnow)
  clear hb1 hb2 hb3 hb4 hK1 hK2 hK3
  go_enter Try.func20, Try.ntmps20
  go_wp2_with fail
  refine hrc.out.mono ?_; rintro e_ w5 ⟨rfl, hb5⟩
  clear hrc z0 z1 z2
  have hK15 := (hb5.block _ (blk_lt hK14)).trans hK14
  have hK25 := (hb5.block _ (blk_lt hK24)).trans hK24
  have hK35 := (hb5.block _ (blk_lt hK34)).trans hK34
  have hK45 := (hb5.block _ (blk_lt hK4)).trans hK4
  have hB5 := Aside0.mk (below_step hB4.out hb5)
  have hz5 := Lib.hid (show w.heap.size + 4 ≤ w5.heap.size by have := hb5.size; omega)
  clear hK14 hK24 hK34 hK4 hs2 hs3 hs4
  obtain ⟨z0, z1, z2⟩ := box3 hK15
  cases hR : relB l0 now next with
  | false =>
    have hfin : ∀ W, Hid (AckE l0 now next u id (.returned (.tuple #[zerR, .int .i64 1])) W) := fun W => Lib.hid (.inl ⟨hR, rfl⟩)
    go_wp2_with ((with_reducible refine gate_store (t := 25) (p := 6) rfl ?_); go_loud (refine wpList_storeBox rfl rfl 25 (.tmp 6) (.tmp 13) rfl zerR [.slice none 0 0, .int .u64 0, .int .u64 0] rfl rfl rfl (by kernel_rfl) (by simp [Value.oneCell']) hK45 rfl ?_); intro wz hKz hgz hsz)
    have hBz : Below w.heap.size w wz := hB5.out.grown hgz hB5.out.size (fun k hk => by cases hk; omega)
    obtain ⟨y0, y1, y2⟩ := box3 hKz
    refine bodyPost_ret (v := .tuple #[zerR, .int .i64 1]) (by simp [results, Try.results20, go_sem, y0, y1, y2]) rfl ?_
    exact ⟨(hfin _).out, hBz⟩
  | true =>
    obtain ⟨w6, hw6⟩ : ∃ w6, w5.alloc (.cells #[.bool false] 4 (0, 0)) = w6 := ⟨_, rfl⟩
    have hb6 : Below w5.heap.size w5 w6 := by rw [← hw6]; exact below_alloc (Below.refl _ _) _
    have hK6 : w6.heap[w5.heap.size]? = some (.cells #[.bool false] 4 (0, 0)) := by rw [← hw6]; exact heap_alloc_new _ _
    have hfin0 : anyL (ackB u id) l0 = false → ∀ W, AckE l0 now next u id (.returned (.tuple #[zerR, .int .i64 5])) W := fun h W => .inr (.inl ⟨hR, h, rfl⟩)
    have hfin1 : anyL (ackB u id) l0 = true → ∀ lp A c W, withoutL (ackB u id) l0 = lp → lp.length ≤ c → k57.C W A lp.length lp → AckE l0 now next u id (.returned (.tuple #[rv A lp.length c now next, .int .i64 0])) W := fun h lp A c W h0 h1 h2 => .inr (.inr ⟨hR, h, lp, A, c, h0, rfl, h1, h2⟩)
    replace hfin0 := Lib.hid hfin0
    replace hfin1 := Lib.hid hfin1
    clear z0 z1 z2
    go_wp2_with ((with_reducible refine gate_store (t := 4) (p := 8) rfl ?_); go_loud (refine wpList_storeBox rfl rfl 4 (.tmp 8) (.const (.bool false)) rfl (.bool false) [.bool false] rfl rfl rfl (by kernel_rfl) (by simp [Value.oneCell']) hK6 rfl ?_); intro w7 hK7 hg7 hs7; have hb7 : Below w5.heap.size w5 w7 := hb6.grown hg7 hb6.size (fun k hk => by cases hk; exact Nat.le_refl _); have hK17 := (hb7.block _ (blk_lt hK15)).trans hK15; obtain ⟨z0, z1, z2⟩ := box3 hK17)
    have hK27 := (hb7.block _ (blk_lt hK25)).trans hK25
    have hK37 := (hb7.block _ (blk_lt hK35)).trans hK35
    have hK47 := (hb7.block _ (blk_lt hK45)).trans hK45
    have hB7 := Aside0.mk (below_step hB5.out hb7)
    have hz7 := Lib.hid (show w5.heap.size < w7.heap.size from blk_lt hK7)
    have hwo := Aside0.mk (without_calls 43 #[.pointer (some ⟨w.heap.size + 1, 0, none⟩), .pointer (some ⟨w.heap.size + 2, 0, none⟩), .pointer (some ⟨w5.heap.size, 0, none⟩)] enter43 (ackB u id) (some w5.heap.size) (Met (w.heap.size + 1) (w.heap.size + 2) w5.heap.size u id) false A0 c0 l0 now next w w7 hr0 hc0 hlen (fun s hs => (hwf s hs).1) hB7.out (fun k hk => by cases hk; exact ⟨by have := hz5.out; omega, hz7.out⟩)
      (fun t W W' h1 h2 => ⟨(h2 _ (blk_lt hK27)).trans h1.1, (h2 _ (blk_lt hK37)).trans h1.2.1, (h2 _ hz7.out).trans h1.2.2.1, h1.2.2.2⟩)
      (fun x A c m t W hW => ack1_calls x A c m _ _ _ u id t W hW) ⟨hK27, hK37, hK7, by have := hz5.out; omega, by have := hz5.out; omega⟩)
    clear hK15 hK25 hK35 hK45 hK7 hK27 hK37 hg7 hs7 hb6 hb7
    go_wp2_with fail
    refine hwo.out.mono ?_; rintro e_ w8 ⟨v8, rfl, hS8, hF8, hM8⟩
    clear hwo
    rw [Bool.false_or] at hM8
    obtain ⟨lp, hlp⟩ : ∃ o, withoutL (ackB u id) l0 = o := ⟨_, rfl⟩
    rw [hlp] at hS8
    obtain ⟨A8, c8, rfl, hc8, _⟩ := Kd.S_reads hS8
    have hK48 := (hF8.block _ (blk_lt hK47) (fun e => by injection e with e; have := hz5.out; omega)).trans hK47
    have hB8 := Aside0.mk (hB7.out.trans (hF8.below (B' := w.heap.size) (by have := hz5.out; have := hz7.out; omega) (fun k hk => by cases hk; have := hz5.out; omega)))
    have hm8 := hM8.2.2.1
    have hz8 := Lib.hid hF8.size
    replace hlp := Lib.hid hlp
    replace hS8 := Aside0.mk hS8
    clear hK47 hF8 hM8 z0 z1 z2
    obtain ⟨w9, hw9⟩ : ∃ w9, w8.alloc (.cells #[.slice none 0 0, .int .u64 0, .int .u64 0] 25 (0, 0)) = w9 := ⟨_, rfl⟩
    have hb9 : Below w8.heap.size w8 w9 := by rw [← hw9]; exact below_alloc (Below.refl _ _) _
    have hK9 : w9.heap[w8.heap.size]? = some (.cells #[.slice none 0 0, .int .u64 0, .int .u64 0] 25 (0, 0)) := by rw [← hw9]; exact heap_alloc_new _ _
    cases hm : anyL (ackB u id) l0 with
    | false =>
      rw [hm] at hm8
      have hf := hfin0.out hm
      clear hfin0 hfin1
      go_wp2_with (first | ((with_reducible refine gate_store (t := 25) (p := 9) rfl ?_); go_loud (refine wpList_storeBox rfl rfl 25 (.tmp 9) (.tmp 16) rfl (rv A8 lp.length c8 now next) [.slice A8 lp.length c8, .int .u64 now, .int .u64 next] rfl rfl rfl (by kernel_rfl) (by simp [Value.oneCell']) hK9 rfl ?_); intro wa hKa hga hsa; have hba : Below w8.heap.size w8 wa := hb9.grown hga hb9.size (fun k hk => by cases hk; exact Nat.le_refl _); have ym := box1 ((hba.block _ (blk_lt hm8)).trans hm8); obtain ⟨y0, y1, y2⟩ := box3 hKa; have hK4a := (hba.block _ (blk_lt hK48)).trans hK48; have hSa := Aside0.mk (Kd.S_below hS8.out hba); have hBa := Aside0.mk (below_step hB8.out hba); have hza := hba.size; clear hga) | ((with_reducible refine gate_store (t := 25) (p := 6) rfl ?_); go_loud (refine wpList_storeBox rfl rfl 25 (.tmp 6) (.tmp 19) rfl zerR [.slice none 0 0, .int .u64 0, .int .u64 0] rfl rfl rfl (by kernel_rfl) (by simp [Value.oneCell']) hK4a rfl ?_); intro wz hKz hgz hsz))
      have hBz : Below w.heap.size w wz := hBa.out.grown hgz hBa.out.size (fun k hk => by cases hk; omega)
      obtain ⟨x0, x1, x2⟩ := box3 hKz
      refine bodyPost_ret (v := .tuple #[zerR, .int .i64 5]) (by simp [results, Try.results20, go_sem, x0, x1, x2]) rfl ?_
      exact ⟨hf _, hBz⟩
    | true =>
      rw [hm] at hm8
      have hf := Lib.hid (hfin1.out hm)
      clear hfin0 hfin1
      go_wp2_with (first | ((with_reducible refine gate_store (t := 25) (p := 9) rfl ?_); go_loud (refine wpList_storeBox rfl rfl 25 (.tmp 9) (.tmp 16) rfl (rv A8 lp.length c8 now next) [.slice A8 lp.length c8, .int .u64 now, .int .u64 next] rfl rfl rfl (by kernel_rfl) (by simp [Value.oneCell']) hK9 rfl ?_); intro wa hKa hga hsa; have hba : Below w8.heap.size w8 wa := hb9.grown hga hb9.size (fun k hk => by cases hk; exact Nat.le_refl _); have ym := box1 ((hba.block _ (blk_lt hm8)).trans hm8); obtain ⟨y0, y1, y2⟩ := box3 hKa; have hK4a := (hba.block _ (blk_lt hK48)).trans hK48; have hSa := Aside0.mk (Kd.S_below hS8.out hba); have hBa := Aside0.mk (below_step hB8.out hba); have hza := hba.size; clear hga) | ((with_reducible refine gate_store (t := 25) (p := 6) rfl ?_); go_loud (refine wpList_storeBox rfl rfl 25 (.tmp 6) (.tmp 20) rfl (rv A8 lp.length c8 now next) [.slice A8 lp.length c8, .int .u64 now, .int .u64 next] rfl rfl rfl (by kernel_rfl) (by simp [Value.oneCell']) hK4a rfl ?_); intro wz hKz hgz hsz))
      have hBz : Below w.heap.size w wz := hBa.out.grown hgz hBa.out.size (fun k hk => by cases hk; omega)
      have hSz := Kd.S_grown (Kd.S_bound hSa.out) hgz (fun k hk e => by injection e with e; have := hk.2.1; have := hz5.out; have := hz7.out; omega)
      obtain ⟨x0, x1, x2⟩ := box3 hKz
      refine bodyPost_ret (v := .tuple #[rv A8 lp.length c8 now next, .int .i64 0]) (by simp [results, Try.results20, go_sem, x0, x1, x2]) rfl ?_
      exact ⟨hf.out lp A8 c8 (bs S wz) hlp.out hc8 (Kd.S_reads' (bs_S hSz (fun k hk => by have := hS.out k hk; have := hz5.out; have := hz7.out; omega))).2.2, hBz⟩
theorem ackE_sees {l : List S57} {now next u id : Int} {e : Ending} {w w' : World} (hs : Sees w w') (h : AckE l now next u id e w) : AckE l now next u id e w' := by
  rcases h with h | h | ⟨a, b, lp, A, c', h4, h5, h6, h7⟩
  · exact .inl h
  · exact .inr (.inl h)
  · exact .inr (.inr ⟨a, b, lp, A, c', h4, h5, h6, sees_B57 hs h7⟩)
theorem ack_calls (A0 : Option Addr) (c0 : Nat) (l0 : List S57) (now next u id : Int) (w : World) (hr0 : Kd.C k57 w A0 l0.length l0) (hc0 : l0.length ≤ c0) (hlen : l0.length ≤ 1000000) (hwf : wfB l0) (hnow : 0 ≤ now ∧ now ≤ 18446744073709551615) :
    Calls Try.prog 20 #[rv A0 l0.length c0 now next, .int .u64 u, .int .u64 id] w fun e w' => AckE l0 now next u id e w' ∧ Below w.heap.size w w' :=
  (ack_callsS (fun _ => False) A0 c0 l0 now next u id w (fun _ h => h.elim) hr0 hc0 hlen hwf hnow).mono fun e w' h => ⟨ackE_sees bs_sees h.1, h.2⟩
end Go.Proofs.Ytbmfcikjhnnnbaa.Q
