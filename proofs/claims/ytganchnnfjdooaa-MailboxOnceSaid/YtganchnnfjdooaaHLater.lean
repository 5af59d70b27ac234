/- mailbox.Later answers the parcels without what is too old.
   Conditions: the list is read as parcels. -/
import Derived.Test.YtganchnnfjdooaaHSend
namespace Go.Proofs.Ytganchnnfjdooaa.Q
open Go.RowKit Go.Proofs.YtganchnnfjdooaaW.PrintWords Go.Proofs.YtganchnnfjdooaaW.PrintLast Go.Proofs.YtganchnnfjdooaaW.PrintMore
set_option linter.unusedVariables false
set_option linter.unusedSimpArgs false

/-- A parcel is too old. -/
def old (now : Int) (p : S27) : Bool := decide (p.f4 < now) && decide (50 < IntKind.u64.wrap (now - p.f4))
theorem old_calls (gn : Nat) (now : Int) (p : S27) (w : World) (hlt : gn < w.heap.size) (hcell : w.cell? ⟨gn, 0, none⟩ = some (.int .u64 now)) :
    Calls Try.prog 23 #[pv p, .pointer (some ⟨gn, 0, none⟩)] w fun e w' => e = .returned (.bool (old now p)) ∧ Below w.heap.size w w' := by
  unfold pv old
  by_cases h1 : p.f4 < now
  · have e1 : decide (p.f4 < now) = true := decide_eq_true h1
    by_cases h2 : 50 < IntKind.u64.wrap (now - p.f4)
    · have e2 : decide (50 < IntKind.u64.wrap (now - p.f4)) = true := decide_eq_true h2
      rw [e1, e2]
      go_enter Try.func23, Try.ntmps23
      go_wp2
      go_ret
      exact ⟨rfl, below_alloc (Below.refl _ _) _⟩
    · have e2 : decide (50 < IntKind.u64.wrap (now - p.f4)) = false := decide_eq_false h2
      rw [e1, e2]
      go_enter Try.func23, Try.ntmps23
      go_wp2
      go_ret
      exact ⟨rfl, below_alloc (Below.refl _ _) _⟩
  · have e1 : decide (p.f4 < now) = false := decide_eq_false h1
    rw [e1]
    go_enter Try.func23, Try.ntmps23
    go_wp2
    go_ret
    exact ⟨rfl, below_alloc (Below.refl _ _) _⟩
/-- The place of the first parcel that is too old. -/
def oldOf (now : Int) (l : List S27) : Nat := l.findIdx (old now)
theorem oldOf_at (l : List S27) (now : Int) (i : Int) (h0 : 0 ≤ i) (h1 : i < l.length) (hp : (old now (rd_T27 l i)) = true) (hb : ∀ j : Int, 0 ≤ j → j < i → (old now (rd_T27 l j)) = false) : (oldOf now l : Int) = i := by
  obtain ⟨n, rfl⟩ := Int.eq_ofNat_of_zero_le h0
  have hn : n < l.length := by omega
  have hr : ∀ (k : Nat) (hk : k < l.length), rd_T27 l k = l[k] := fun k hk => by simp [rd_T27, hk]
  unfold oldOf
  congr 1
  rw [List.findIdx_eq hn]
  refine ⟨by rw [← hr n hn]; exact hp, fun j hj => ?_⟩
  rw [← hr j (by omega)]
  exact hb j (by omega) (by omega)
theorem oldOf_none (l : List S27) (now : Int) (hb : ∀ j : Int, 0 ≤ j → j < l.length → (old now (rd_T27 l j)) = false) : oldOf now l = l.length := by
  have hr : ∀ (k : Nat) (hk : k < l.length), rd_T27 l k = l[k] := fun k hk => by simp [rd_T27, hk]
  unfold oldOf
  rw [List.findIdx_eq_length]
  intro x hx
  obtain ⟨k, hk, rfl⟩ := List.getElem_of_mem hx
  rw [← hr k hk]
  exact hb k (by omega) (by omega)
set_option maxHeartbeats 1000000 in
set_option maxRecDepth 100000 in
theorem index2_calls (A0 : Option Addr) (c0 : Nat) (l0 : List S27) (u : Int) (w : World) (hr0 : Kd.C k27 w A0 l0.length l0) (hc0 : l0.length ≤ c0) (hlen : l0.length ≤ 9223372036854775807) (gn : Nat) (hgn : gn < w.heap.size) (hcell : w.cell? ⟨gn, 0, none⟩ = some (.int .u64 u)) :
    Calls Try.prog 19 #[.slice A0 l0.length c0, .func (.func 23) #[] #[.pointer (some ⟨gn, 0, none⟩)]] w fun e w' => e = .returned (.int .i64 (if oldOf u l0 < l0.length then oldOf u l0 else -1)) ∧ Below w.heap.size w w' := by
  obtain ⟨fin, hfin⟩ : ∃ fin, (if oldOf u l0 < l0.length then (oldOf u l0 : Int) else -1) = fin := ⟨_, rfl⟩
  rw [hfin]
  replace hfin := Lib.hid hfin
  replace hcell := Lib.hid hcell
  go_enter Try.func19, Try.ntmps19
  go_wp2
  go_loopw [8] (fun v wr => ∃ i : Int, 0 ≤ i ∧ i ≤ l0.length ∧ v = .int .i64 i ∧ (∀ j : Int, 0 ≤ j → j < i → (old u (rd_T27 l0 j)) = false) ∧ Below w.heap.size w wr) (fun v _ => l0.length - (intOf v).toNat)
  case atStart => exact ⟨0, by omega, by omega, rfl, fun j h1 h2 => by omega, Below.refl _ _⟩
  case round =>
    obtain ⟨i, hi0, hi1, rfl, hpre, hB⟩ := hrel
    replace hpre := Lib.hid hpre
    by_cases hlt : i < l0.length
    · obtain ⟨ad, e, q0, q1, q2, q3, q4⟩ := at_T27 (Kd.C_below hr0 hB) i hi0 hlt
      subst e
      have HP := Lib.hid (p := ∀ p, rd_T27 l0 i = p → (old u p) = false → ∀ j : Int, 0 ≤ j → j < i + 1 → (old u (rd_T27 l0 j)) = false) (by
        intro p hp hf j h1 h2
        by_cases hj : j = i
        · subst hj; rw [hp]; exact hf
        · exact hpre.out j h1 (by omega))
      have HF := Lib.hid (p := ∀ p, rd_T27 l0 i = p → (old u p) = true → fin = i) (by
        intro p hp hf
        have := oldOf_at l0 u i hi0 hlt (by rw [hp]; exact hf) hpre.out
        rw [← hfin.out, if_pos (by omega)]
        exact this)
      obtain ⟨p, hp⟩ : ∃ p, rd_T27 l0 i = p := ⟨_, rfl⟩
      rw [hp] at q0 q1 q2 q3 q4
      replace HP := Lib.hid (HP.out p hp)
      replace HF := Lib.hid (HF.out p hp)
      clear hp hpre
      go_wp2_with (go_at_call 23; refine (old_calls gn u p _ (by have := hB.size; omega) ((Below.cell hB hgn).trans hcell.out)).mono ?_; rintro e w' ⟨rfl, hb⟩)
      · have ht : (old u p) = true := by assumption
        go_ret
        exact ⟨by rw [HF.out ht]; rfl, below_step hB hb⟩
      · have ht : (old u p) = false := by assumption
        go_roundw
        case rel => exact ⟨i + 1, by omega, by omega, rfl, HP.out ht, below_step hB hb⟩
        case measure => simp [intOf]; omega
    · obtain rfl : i = l0.length := by omega
      have hf := oldOf_none l0 u hpre.out
      have hf2 := hfin.out
      rw [if_neg (by omega)] at hf2
      go_wp2
      go_ret
      exact ⟨by rw [← hf2]; rfl, hB⟩
/-- What of the first parcels stays. -/
def keepI (now : Int) (xs : List S27) (j : Nat) : List S27 := (xs.take j).filter fun p => !old now p
theorem keepI_succ (now : Int) (xs : List S27) (j : Int) (h0 : 0 ≤ j) (h1 : j < xs.length) : keepI now xs (j + 1).toNat = keepI now xs j.toNat ++ if old now (rd_T27 xs j) then [] else [rd_T27 xs j] := by
  obtain ⟨n, rfl⟩ := Int.eq_ofNat_of_zero_le h0
  have hn : n < xs.length := by omega
  have hr : rd_T27 xs (n : Int) = xs[n] := by simp [rd_T27, hn]
  unfold keepI
  rw [show ((n : Int) + 1).toNat = n + 1 by omega, show ((n : Int)).toNat = n by omega, List.take_succ_eq_append_getElem hn, List.filter_append, hr]
  by_cases h : old now xs[n] = true
  · simp [h]
  · simp [h]
/-- What the loop of DeleteFunc keeps. -/
structure Kept_ (now : Int) (xs : List S27) (i j : Int) (cur : List S27) : Prop where
  i0 : 0 ≤ i
  ij : i < j
  jn : j ≤ xs.length
  len : cur.length = xs.length
  take : cur.take i.toNat = keepI now xs j.toNat
  ilen : (keepI now xs j.toNat).length = i.toNat
  drop : cur.drop j.toNat = xs.drop j.toNat
theorem Kept_.rd {now : Int} {xs : List S27} {i j : Int} {cur : List S27} (h : Kept_ now xs i j cur) (hj : j < xs.length) : rd_T27 cur j = rd_T27 xs j := by
  have hl := h.len
  have h0 := h.i0
  have h1 := h.ij
  have e1 : (cur.drop j.toNat)[0]? = cur[j.toNat]? := by simp
  have e2 : (xs.drop j.toNat)[0]? = xs[j.toNat]? := by simp
  have e : cur[j.toNat]? = xs[j.toNat]? := by rw [← e1, ← e2, h.drop]
  simp only [rd_T27, List.getD_eq_getElem?_getD, e]
theorem Kept_.go {now : Int} {xs : List S27} {i j : Int} {cur : List S27} (h : Kept_ now xs i j cur) (hj : j < xs.length) (ho : old now (rd_T27 xs j) = true) : Kept_ now xs i (j + 1) cur := by
  obtain ⟨i0, ij, jn, len, take, ilen, drop⟩ := h
  have hk := keepI_succ now xs j (by omega) hj
  rw [if_pos ho, List.append_nil] at hk
  refine ⟨i0, by omega, by omega, len, by rw [hk]; exact take, by rw [hk]; exact ilen, ?_⟩
  rw [show (j + 1).toNat = j.toNat + 1 by omega, ← List.drop_drop, ← List.drop_drop, drop]
theorem Kept_.stay {now : Int} {xs : List S27} {i j : Int} {cur : List S27} (h : Kept_ now xs i j cur) (hj : j < xs.length) (ho : old now (rd_T27 xs j) = false) : Kept_ now xs (i + 1) (j + 1) (cur.set i.toNat (rd_T27 xs j)) := by
  obtain ⟨i0, ij, jn, len, take, ilen, drop⟩ := h
  have hk := keepI_succ now xs j (by omega) hj
  rw [if_neg (by rw [ho]; simp)] at hk
  have hi : i.toNat < cur.length := by omega
  refine ⟨by omega, by omega, by omega, by rw [List.length_set]; exact len, ?_, by rw [hk, List.length_append, ilen]; simp; omega, ?_⟩
  · rw [hk, show (i + 1).toNat = i.toNat + 1 by omega, List.take_succ_eq_append_getElem (by rw [List.length_set]; exact hi), List.take_set_of_le (Nat.le_refl _), take, List.getElem_set_self]
  · rw [List.drop_set_of_lt (by omega), show (j + 1).toNat = j.toNat + 1 by omega, ← List.drop_drop, ← List.drop_drop, drop]
theorem Kept_.done {now : Int} {xs : List S27} {i : Int} {cur : List S27} (h : Kept_ now xs i xs.length cur) : cur.take i.toNat = xs.filter fun p => !old now p := by
  rw [h.take]
  simp [keepI]
theorem Kept_.start {now : Int} {xs : List S27} (h : oldOf now xs < xs.length) : Kept_ now xs (oldOf now xs) ((oldOf now xs : Int) + 1) xs := by
  have hp : old now xs[oldOf now xs] = true := List.findIdx_getElem (p := old now)
  have hall : (xs.take (oldOf now xs)).filter (fun p => !old now p) = xs.take (oldOf now xs) := by
    rw [List.filter_eq_self]
    intro a ha
    obtain ⟨k, hk, rfl⟩ := List.getElem_of_mem ha
    rw [List.length_take] at hk
    rw [List.getElem_take]
    have := List.not_of_lt_findIdx (p := old now) (xs := xs) (i := k) (by unfold oldOf at hk; omega)
    simpa using this
  have hk : keepI now xs ((oldOf now xs : Int) + 1).toNat = xs.take (oldOf now xs) := by
    have hs := keepI_succ now xs (oldOf now xs) (by omega) (by omega)
    have hr : rd_T27 xs (oldOf now xs : Int) = xs[oldOf now xs] := by simp [rd_T27, h]
    rw [hs, hr, if_pos hp, List.append_nil, Int.toNat_natCast]
    exact hall
  exact ⟨by omega, by omega, by omega, rfl, by rw [hk, Int.toNat_natCast], by rw [hk, Int.toNat_natCast, List.length_take]; omega, rfl⟩
/-- A parcel of a row of one's own: its cells. -/
theorem own_cells {W : World} {base n c g : Nat} {ok : Nat → Prop} {cur : List S27} (h : Kd.R k27 27 W base ok (.slice (some ⟨g, 0, none⟩) n c) cur) (i : Int) (h0 : 0 ≤ i) (h1 : i < n) :
    (W.cell? ⟨g, i.toNat * 5, none⟩ = some (.int .u64 (rd_T27 cur i).f0) ∧ W.cell? ⟨g, i.toNat * 5 + 1, none⟩ = some (.int .u64 (rd_T27 cur i).f1) ∧ W.cell? ⟨g, i.toNat * 5 + 2, none⟩ = some (.string (rd_T27 cur i).f2) ∧ W.cell? ⟨g, i.toNat * 5 + 3, none⟩ = some (.int .i64 (rd_T27 cur i).f3) ∧ W.cell? ⟨g, i.toNat * 5 + 4, none⟩ = some (.int .u64 (rd_T27 cur i).f4)) ∧
    (W.frozen? ⟨g, i.toNat * 5, none⟩ = false ∧ W.frozen? ⟨g, i.toNat * 5 + 1, none⟩ = false ∧ W.frozen? ⟨g, i.toNat * 5 + 2, none⟩ = false ∧ W.frozen? ⟨g, i.toNat * 5 + 3, none⟩ = false ∧ W.frozen? ⟨g, i.toNat * 5 + 4, none⟩ = false) := by
  obtain ⟨cs, hl, hM, hc, hf⟩ := Kd.R_elem h (rd_T27 cur i) i h0 h1
  have e : cur.getD i.toNat (rd_T27 cur i) = rd_T27 cur i := by
    have hlt : i.toNat < cur.length := by have := (Kd.R_reads' h).1; omega
    simp [rd_T27, List.getD_eq_getElem?_getD, hlt]
  rw [e] at hM
  obtain rfl := k27_openM hM
  exact ⟨⟨hc 0 _ rfl, hc 1 _ rfl, hc 2 _ rfl, hc 3 _ rfl, hc 4 _ rfl⟩, hf 0, hf 1, hf 2, hf 3, hf 4⟩
/-- A parcel is laid at a place of a row of one's own. -/
theorem own_put {W : World} {base n c g : Nat} {ok : Nat → Prop} {cur : List S27} (h : Kd.R k27 27 W base ok (.slice (some ⟨g, 0, none⟩) n c) cur) (i : Int) (h0 : 0 ≤ i) (h1 : i < n) (p : S27) :
    Kd.R k27 27 (((((W.setCell ⟨g, i.toNat * 5, none⟩ (.int .u64 p.f0)).setCell ⟨g, i.toNat * 5 + 1, none⟩ (.int .u64 p.f1)).setCell ⟨g, i.toNat * 5 + 2, none⟩ (.string p.f2)).setCell ⟨g, i.toNat * 5 + 3, none⟩ (.int .i64 p.f3)).setCell ⟨g, i.toNat * 5 + 4, none⟩ (.int .u64 p.f4)) base ok (.slice (some ⟨g, 0, none⟩) n c) (cur.set i.toNat p) ∧
    W.grownBy (((((W.setCell ⟨g, i.toNat * 5, none⟩ (.int .u64 p.f0)).setCell ⟨g, i.toNat * 5 + 1, none⟩ (.int .u64 p.f1)).setCell ⟨g, i.toNat * 5 + 2, none⟩ (.string p.f2)).setCell ⟨g, i.toNat * 5 + 3, none⟩ (.int .i64 p.f3)).setCell ⟨g, i.toNat * 5 + 4, none⟩ (.int .u64 p.f4)) (some g) := by
  obtain ⟨cs, hl, hM, hc, hf⟩ := Kd.R_elem h (rd_T27 cur i) i h0 h1
  have hcs := k27_openM hM
  exact Kd.R_seg (okp := fun _ => False) (j := 0) h i h0 h1 hl hc (seg := [.int .u64 p.f0, .int .u64 p.f1, .string p.f2, .int .i64 p.f3, .int .u64 p.f4]) (Nat.le_refl 5) (by rw [hcs]; exact k27_mkM _ _ _ p) (fun k hk => hk.elim)
theorem run_clear_rows {W : World} {g o k : Nat} {cur : Array Value} (hh : W.heap[g]? = some (.cells cur 27 (0, 0))) (hk : 0 < k) (hfit : o + k * 5 ≤ cur.size) :
    ∃ zs : List Value, zs.length = k * 5 ∧ ∀ c, (Builtin.clear_ #[22] 0 #[.slice (some ⟨g, o, none⟩) k c]).run Try.prog W = .ok (.tuple #[]) (W.setCells g o zs) := by
  obtain ⟨zv, hzv⟩ : ∃ zv : Array Value, zv = #[.int .u64 0, .int .u64 0, .string ⟨#[]⟩, .int .i64 0, .int .u64 0] := ⟨_, rfl⟩
  have hz : ∀ W, (zeroValue 27).run Try.prog W = .ok (.agg zv) W := fun W => by rw [hzv]; kernel_rfl
  have hzc : (Value.agg zv).cells = zv := by rw [hzv]; kernel_rfl
  have hzs : zv.size = 5 := by rw [hzv]; rfl
  have hl : (Builtin.zeroCells zv k).toList.length = k * 5 := by simp [Builtin.zeroCells, hzs]
  refine ⟨(Builtin.zeroCells zv k).toList, hl, fun c => ?_⟩
  have hone : ∀ v ∈ (Builtin.zeroCells zv k).toList, v.oneCell' = true := by
    intro v hv
    simp only [Builtin.zeroCells, Array.toList_map, List.mem_map, Array.mem_toList_iff] at hv
    obtain ⟨a, _, rfl⟩ := hv
    have hlt : a % zv.size < zv.size := Nat.mod_lt _ (by omega)
    rw [getElem!_pos zv (a % zv.size) hlt]
    have hm : zv[a % zv.size] ∈ zv := Array.getElem_mem hlt
    generalize zv[a % zv.size] = v at hm
    rw [hzv] at hm
    simp at hm
    rcases hm with rfl | rfl | rfl | rfl <;> rfl
  have hc : ∀ j, j < (Builtin.zeroCells zv k).toList.length → (W.cell? ⟨g, o + 0 + j, none⟩).isSome = true := by
    intro j hj
    rw [hl] at hj
    simp [World.cell?, hh]; omega
  have hf : ∀ j, j < (Builtin.zeroCells zv k).toList.length → W.frozen? ⟨g, o + 0 + j, none⟩ = false := by
    intro j hj
    simp [World.frozen?, hh]
  have hst := run_storeCells_cells (P := Try.prog) g o _ 0 W hc hf hone
  simp only [Nat.add_zero] at hst
  obtain ⟨m, rfl⟩ : ∃ m, k = m + 1 := ⟨k - 1, by omega⟩
  simp [Builtin.clear_, run_underlying Try.underlying22, hz, hzc, hst]
set_option maxHeartbeats 1000000 in
set_option maxRecDepth 100000 in
theorem deleteFunc_calls (g c : Nat) (xs : List S27) (gn : Nat) (now : Int) (ok : Nat → Prop) (W0 w : World) (ho : Kd.R k27 27 w W0.heap.size ok (.slice (some ⟨g, 0, none⟩) xs.length c) xs) (hb : Below W0.heap.size W0 w) (hgn : gn < W0.heap.size) (hcell : W0.cell? ⟨gn, 0, none⟩ = some (.int .u64 now)) :
    Calls Try.prog 22 #[.slice (some ⟨g, 0, none⟩) xs.length c, .func (.func 23) #[] #[.pointer (some ⟨gn, 0, none⟩)]] w fun e w' => ∃ v, e = .returned v ∧ Kd.R k27 27 w' W0.heap.size ok v (xs.filter fun p => !old now p) ∧ Below W0.heap.size W0 w' := by
  obtain ⟨_, hc, hC⟩ := Kd.R_reads' ho
  have hI := index2_calls _ c xs now w hC hc hC.2.1 gn (by have := hb.size; omega) ((Below.cell hb hgn).trans hcell)
  have hle : xs.length ≤ 9223372036854775807 := hC.2.1
  clear hC
  replace hcell := Lib.hid hcell
  by_cases hf : oldOf now xs < xs.length
  · have hst := Kept_.start hf
    rw [if_pos hf] at hI
    obtain ⟨i0, hi0⟩ : ∃ i0 : Int, (oldOf now xs : Int) = i0 := ⟨_, rfl⟩
    rw [hi0] at hst hI
    have hi0a : 0 ≤ i0 := by omega
    have hi0b : i0 < xs.length := by omega
    have hw0 : wrap64 (i0 + 1) = i0 + 1 := by unfold wrap64; omega
    have hneg : (i0 == -1) = false := beq_eq_false_iff_ne.2 (by omega)
    clear hf hi0
    replace hst := Lib.hid hst
    replace hI := Aside0.mk hI
    replace ho := Aside0.mk ho
    replace hb := Aside0.mk hb
    go_enter Try.func22, Try.ntmps22
    go_wp2_with (go_at_call 19; refine hI.out.mono ?_; rintro e w2 ⟨rfl, hb2⟩; have HO := Aside0.mk (Kd.R_below ho.out hb2); have HB := Aside0.mk (below_step hb.out hb2); clear ho hb hb2 hI)
    go_loopw [5, 6] (fun u v wr => ∃ (i j : Int) (cur : List S27), u = .int .i64 i ∧ v = .int .i64 j ∧ Kept_ now xs i j cur ∧ Kd.R k27 27 wr W0.heap.size ok (.slice (some ⟨g, 0, none⟩) xs.length c) cur ∧ Below W0.heap.size W0 wr) (fun _ v _ => xs.length - (intOf v).toNat)
    case atStart => exact ⟨i0, i0 + 1, xs, rfl, rfl, hst.out, HO.out, HB.out⟩
    case round =>
      clear HO HB hst
      obtain ⟨i, j, cur, rfl, rfl, hK, hR, hB⟩ := hrel
      have hj0 : 0 ≤ j := by have := hK.i0; have := hK.ij; omega
      by_cases hlt : j < xs.length
      · obtain ⟨⟨q0, q1, q2, q3, q4⟩, _⟩ := own_cells hR j hj0 hlt
        have hgo := Lib.hid (p := ∀ p, rd_T27 xs j = p → old now p = true → Kept_ now xs i (j + 1) cur) (fun p hp h => hK.go hlt (by rw [hp]; exact h))
        have hstay := Lib.hid (p := ∀ p, rd_T27 xs j = p → old now p = false → Kept_ now xs (i + 1) (j + 1) (cur.set i.toNat p)) (fun p hp h => by rw [← hp]; exact hK.stay hlt (by rw [hp]; exact h))
        have hi0 := hK.i0
        have hij := hK.ij
        rw [hK.rd hlt] at q0 q1 q2 q3 q4
        obtain ⟨p, hp⟩ : ∃ p, rd_T27 xs j = p := ⟨_, rfl⟩
        rw [hp] at q0 q1 q2 q3 q4
        replace hgo := Lib.hid (hgo.out p hp)
        replace hstay := Lib.hid (hstay.out p hp)
        clear hp hK
        obtain ⟨w1, hw1⟩ : ∃ w1, wr.alloc (.cells #[.int .u64 p.f0, .int .u64 p.f1, .string p.f2, .int .i64 p.f3, .int .u64 p.f4] 27 (0, 0)) = w1 := ⟨_, rfl⟩
        have hB1 : Below wr.heap.size wr w1 := by rw [← hw1]; exact below_alloc (Below.refl _ _) _
        have hsz : w1.heap.size = wr.heap.size + 1 := by rw [← hw1]; exact Array.size_push _
        have hnew := Lib.hid (show w1.heap[wr.heap.size]? = some (.cells #[.int .u64 p.f0, .int .u64 p.f1, .string p.f2, .int .i64 p.f3, .int .u64 p.f4] 27 (0, 0)) by rw [← hw1]; exact heap_alloc_new _ _)
        have hBs := Aside0.mk (below_step hB hB1)
        obtain ⟨z0, z1, z2, z3, z4, _⟩ := box_cells hnew.out
        go_wp2_with (go_at_call 23; refine (old_calls gn now p w1 (by have := hBs.out.size; omega) ((Below.cell hBs.out hgn).trans hcell.out)).mono ?_; rintro e w2 ⟨rfl, hb⟩; clear z0 z1 z2 z3 z4 q0 q1 q2 q3 q4; obtain ⟨z0, z1, z2, z3, z4, _⟩ := box_cells ((hb.block _ (by omega)).trans hnew.out); have HR := Aside0.mk (Kd.R_below hR (below_step hB1 hb)); obtain ⟨⟨q0, q1, q2, q3, q4⟩, y0, y1, y2, y3, y4⟩ := own_cells HR.out i hi0 (by omega))
        · have ht : (!old now p) = true := by assumption
          have hput := Aside0.mk (own_put HR.out i hi0 (by omega) p)
          clear z0 z1 z2 z3 z4 q0 q1 q2 q3 q4 y0 y1 y2 y3 y4
          have hw : wrap64 (i + 1) = i + 1 := by unfold wrap64; omega
          have hB5 := Aside0.mk (pw_below_grown (below_step hBs.out hb) _ (below_step hBs.out hb).size hput.out.2 (fun k hk => by injection hk with hk; subst hk; exact Kd.R_base HR.out g rfl))
          go_roundw
          case rel => exact ⟨i + 1, j + 1, cur.set i.toNat p, rfl, rfl, hstay.out (by simpa using ht), hput.out.1, hB5.out⟩
          case measure => simp [intOf]; omega
        · have ht : (!old now p) = false := by assumption
          clear z0 z1 z2 z3 z4 q0 q1 q2 q3 q4 y0 y1 y2 y3 y4
          go_roundw
          case rel => exact ⟨i, j + 1, cur, rfl, rfl, hgo.out (by simpa using ht), HR.out, below_step hBs.out hb⟩
          case measure => simp [intOf]; omega
      · have hjn : j = xs.length := by have := hK.jn; omega
        subst hjn
        have hdone := hK.done
        have hi0 := hK.i0
        have hin := hK.ij
        have hcl := hK.len
        clear hK
        obtain ⟨hg0, cur5, hh, hcur⟩ : W0.heap.size ≤ g ∧ ∃ cur, wr.heap[g]? = some (.cells cur 27 (0, 0)) ∧ cur.size = c * 5 := by
          obtain ⟨_, inner, hown, hr⟩ := hR
          rcases hown.2 with ⟨hv, _⟩ | ⟨g', cap', cur, hv, hb, hh, hnc', hcm, hcs, htake⟩
          · cases hv
          · injection hv with hv _ hv'
            injection hv with hv
            injection hv with hv
            subst hv; subst hv'
            exact ⟨hb, cur, hh, hcs⟩
        have hT := Kd.R_take (m := i.toNat) hR (by omega)
        rw [hdone] at hT
        obtain ⟨zs, hzl, hclr0⟩ := run_clear_rows (k := xs.length - i.toNat) hh (o := i.toNat * 5) (by omega) (by omega)
        have hclr : ∀ c', (Builtin.clear_ #[22] 0 #[.slice (some ⟨g, i.toNat * 5, none⟩) (xs.length - i.toNat) c']).run Try.prog wr = .ok (.tuple #[]) (wr.setCells g (i.toNat * 5) zs) := hclr0
        have hfin := R_beyond (W := wr) (d := k27) (n := i.toNat) hT (i.toNat * 5) zs (Nat.le_refl _) (by show i.toNat * 5 + zs.length ≤ c * 5; rw [hzl]; omega)
        have hbel := Aside0.mk (pw_below_grown hB _ hB.size hfin.2 (fun k hk => by injection hk with hk; omega))
        replace hfin := Aside0.mk hfin
        generalize wr.setCells g (i.toNat * 5) zs = w6 at hclr hfin hbel
        clear hT hR hB hh hcur hclr0 hzl hdone hcl
        have hci : ¬ c = i.toNat := by omega
        go_wp2
        go_ret
        exact ⟨_, rfl, hfin.out.1, hbel.out⟩
  · have hnone : (xs.filter fun p => !old now p) = xs := by
      rw [List.filter_eq_self]
      intro a ha
      have h1 : oldOf now xs = xs.length := Nat.le_antisymm List.findIdx_le_length (by omega)
      have h2 := (List.findIdx_eq_length (p := old now)).1 h1 a ha
      simp [h2]
    rw [if_neg hf] at hI
    rw [hnone]
    clear hnone hf
    replace hI := Aside0.mk hI
    replace ho := Aside0.mk ho
    replace hb := Aside0.mk hb
    go_enter Try.func22, Try.ntmps22
    go_wp2_with (go_at_call 19; refine hI.out.mono ?_; rintro e w2 ⟨rfl, hb2⟩)
    go_ret
    exact ⟨_, rfl, Kd.R_below ho.out hb2, below_step hb.out hb2⟩
set_option maxRecDepth 100000 in
theorem deleteFunc_none (A : Option Addr) (c : Nat) (gn : Nat) (now : Int) (w : World) (hC : Kd.C k27 w A 0 []) (hgn : gn < w.heap.size) (hcell : w.cell? ⟨gn, 0, none⟩ = some (.int .u64 now)) :
    Calls Try.prog 22 #[.slice A 0 c, .func (.func 23) #[] #[.pointer (some ⟨gn, 0, none⟩)]] w fun e w' => e = .returned (.slice A 0 c) ∧ Below w.heap.size w w' := by
  have hI := index2_calls A c [] now w hC (Nat.zero_le _) (by simp) gn hgn hcell
  rw [if_neg (by simp)] at hI
  replace hI := Aside0.mk hI
  clear hC hcell
  go_enter Try.func22, Try.ntmps22
  go_wp2_with (go_at_call 19; refine hI.out.mono ?_; rintro e w2 ⟨rfl, hb2⟩)
  go_ret
  exact ⟨rfl, hb2⟩
def mailbox_Later.f (l0 : List S27) (a1 : Int) : Option (List S27) := if l0.length * 48 ≤ 140737488355328 then some (l0.filter fun p => !old a1 p) else none
set_option maxHeartbeats 1000000 in
set_option maxRecDepth 100000 in
theorem mailbox_Later.calls (A0 : Option Addr) (c0 : Nat) (l0 : List S27) (a1 : Int) (r : List S27) (w : World) (hr0 : Kd.C k27 w A0 l0.length l0) (hc0 : l0.length ≤ c0) (h : mailbox_Later.f l0 a1 = some r) :
    Calls Try.prog 12 #[.slice A0 l0.length c0, .int .u64 a1] w fun e w' => ∃ v, e = .returned v ∧ Kd.R k27 27 w' w.heap.size (fun _ => True) v r ∧ Below w.heap.size w w' := by
  unfold mailbox_Later.f at h
  split at h
  case isFalse => cases h
  case isTrue hlim =>
  obtain rfl := Option.some.inj h
  clear h
  obtain ⟨w1, hw1⟩ : ∃ w1, w.alloc (.cells #[.int .u64 a1] 23 (0, 0)) = w1 := ⟨_, rfl⟩
  have hB1 : Below w.heap.size w w1 := by rw [← hw1]; exact below_alloc (Below.refl _ _) _
  have hsz : w1.heap.size = w.heap.size + 1 := by rw [← hw1]; exact Array.size_push _
  have hnew : w1.heap[w.heap.size]? = some (.cells #[.int .u64 a1] 23 (0, 0)) := by rw [← hw1]; exact heap_alloc_new _ _
  have hcell : Hid (w1.cell? ⟨w.heap.size, 0, none⟩ = some (.int .u64 a1)) := Lib.hid (by simp [World.cell?, hnew])
  have hr1 : Kd.C k27 w1 A0 l0.length l0 := Kd.C_below hr0 hB1
  clear hnew
  rcases Nat.eq_zero_or_pos l0.length with h0 | h0
  · obtain rfl := List.eq_nil_of_length_eq_zero h0
    go_enter Try.func12, Try.ntmps12
    go_wp2_with (go_at_call 21; refine (clone_calls A0 c0 [] w1 hr1 hc0 hlim).mono ?_; rintro e w2 ⟨v, rfl, ho, hb⟩; obtain ⟨A, c, rfl, hc, hC⟩ := Kd.R_reads ho; have HO := Aside0.mk ho; have HB := Aside0.mk hb; clear ho hb)
    go_wp2_with (go_at_call 22; refine (deleteFunc_none A c w.heap.size a1 w2 hC (by have := HB.out.size; omega) ((Below.cell HB.out (show w.heap.size < w1.heap.size by omega)).trans hcell.out)).mono ?_; rintro e w3 ⟨rfl, hb⟩)
    go_ret
    exact ⟨_, rfl, Kd.R_lower (Kd.R_below HO.out hb) (by omega), below_step hB1 (below_step HB.out hb)⟩
  · go_enter Try.func12, Try.ntmps12
    go_wp2_with (go_at_call 21; refine (clone_own A0 c0 l0 w1 hr1 hc0 hlim h0).mono ?_; rintro e w2 ⟨g, c, rfl, ho, hb, hg⟩; have HO := Aside0.mk ho; have HB := Aside0.mk hb; clear ho hb)
    go_wp2_with (go_at_call 22; refine (deleteFunc_calls g c l0 w.heap.size a1 (fun _ => True) w1 w2 HO.out HB.out (by omega) hcell.out).mono ?_; rintro e w3 ⟨v, rfl, ho, hb⟩; clear HO HB; have HO := Aside0.mk ho; have HB := Aside0.mk hb; clear ho hb)
    go_ret
    exact ⟨_, rfl, Kd.R_lower HO.out (by omega), below_step hB1 HB.out⟩
end Go.Proofs.Ytganchnnfjdooaa.Q
