/- mailbox.Take answers a user's first parcel, and the others.
   Conditions: the list is read as parcels. -/
import Derived.Test.YtganchnnfjdooaaHDelete
namespace Go.Proofs.Ytganchnnfjdooaa.Q
open Go.RowKit Go.Proofs.YtganchnnfjdooaaW.PrintWords Go.Proofs.YtganchnnfjdooaaW.PrintLast Go.Proofs.YtganchnnfjdooaaW.PrintMore
set_option linter.unusedVariables false
set_option linter.unusedSimpArgs false

/-- The place of a user's first parcel. -/
def firstOf (l : List S27) (u : Int) : Nat := l.findIdx fun p => p.f1 == u
theorem firstOf_at (l : List S27) (u : Int) (i : Int) (h0 : 0 ≤ i) (h1 : i < l.length) (hp : ((rd_T27 l i).f1 == u) = true) (hb : ∀ j : Int, 0 ≤ j → j < i → ((rd_T27 l j).f1 == u) = false) : (firstOf l u : Int) = i := by
  obtain ⟨n, rfl⟩ := Int.eq_ofNat_of_zero_le h0
  have hn : n < l.length := by omega
  have hr : ∀ (k : Nat) (hk : k < l.length), rd_T27 l k = l[k] := fun k hk => by simp [rd_T27, hk]
  unfold firstOf
  congr 1
  rw [List.findIdx_eq hn]
  refine ⟨by rw [← hr n hn]; exact hp, fun j hj => ?_⟩
  rw [← hr j (by omega)]
  exact hb j (by omega) (by omega)
theorem firstOf_none (l : List S27) (u : Int) (hb : ∀ j : Int, 0 ≤ j → j < l.length → ((rd_T27 l j).f1 == u) = false) : firstOf l u = l.length := by
  have hr : ∀ (k : Nat) (hk : k < l.length), rd_T27 l k = l[k] := fun k hk => by simp [rd_T27, hk]
  unfold firstOf
  rw [List.findIdx_eq_length]
  intro x hx
  obtain ⟨k, hk, rfl⟩ := List.getElem_of_mem hx
  rw [← hr k hk]
  exact hb k (by omega) (by omega)
set_option maxHeartbeats 1000000 in
set_option maxRecDepth 100000 in
theorem index_calls (A0 : Option Addr) (c0 : Nat) (l0 : List S27) (u : Int) (w : World) (hr0 : Kd.C k27 w A0 l0.length l0) (hc0 : l0.length ≤ c0) (hlen : l0.length ≤ 9223372036854775807) :
    Calls Try.prog 19 #[.slice A0 l0.length c0, .func (.func 18) #[.int .u64 u] #[]] w fun e w' => e = .returned (.int .i64 (if firstOf l0 u < l0.length then firstOf l0 u else -1)) ∧ Below w.heap.size w w' := by
  obtain ⟨fin, hfin⟩ : ∃ fin, (if firstOf l0 u < l0.length then (firstOf l0 u : Int) else -1) = fin := ⟨_, rfl⟩
  rw [hfin]
  replace hfin := Lib.hid hfin
  go_enter Try.func19, Try.ntmps19
  go_wp2
  go_loopw [8] (fun v wr => ∃ i : Int, 0 ≤ i ∧ i ≤ l0.length ∧ v = .int .i64 i ∧ (∀ j : Int, 0 ≤ j → j < i → ((rd_T27 l0 j).f1 == u) = false) ∧ Below w.heap.size w wr) (fun v _ => l0.length - (intOf v).toNat)
  case atStart => exact ⟨0, by omega, by omega, rfl, fun j h1 h2 => by omega, Below.refl _ _⟩
  case round =>
    obtain ⟨i, hi0, hi1, rfl, hpre, hB⟩ := hrel
    replace hpre := Lib.hid hpre
    by_cases hlt : i < l0.length
    · obtain ⟨ad, e, q0, q1, q2, q3, q4⟩ := at_T27 (Kd.C_below hr0 hB) i hi0 hlt
      subst e
      have HP := Lib.hid (p := ∀ p, rd_T27 l0 i = p → (p.f1 == u) = false → ∀ j : Int, 0 ≤ j → j < i + 1 → ((rd_T27 l0 j).f1 == u) = false) (by
        intro p hp hf j h1 h2
        by_cases hj : j = i
        · subst hj; rw [hp]; exact hf
        · exact hpre.out j h1 (by omega))
      have HF := Lib.hid (p := ∀ p, rd_T27 l0 i = p → (p.f1 == u) = true → fin = i) (by
        intro p hp hf
        have := firstOf_at l0 u i hi0 hlt (by rw [hp]; exact hf) hpre.out
        rw [← hfin.out, if_pos (by omega)]
        exact this)
      obtain ⟨p, hp⟩ : ∃ p, rd_T27 l0 i = p := ⟨_, rfl⟩
      rw [hp] at q0 q1 q2 q3 q4
      replace HP := Lib.hid (HP.out p hp)
      replace HF := Lib.hid (HF.out p hp)
      clear hp hpre
      go_wp2_with (go_at_call 18; refine (has_calls u p _).mono ?_; rintro e w' ⟨rfl, hb⟩)
      · have ht : (p.f1 == u) = true := by assumption
        go_ret
        exact ⟨by rw [HF.out ht]; rfl, below_step hB hb⟩
      · have ht : (p.f1 == u) = false := by assumption
        go_roundw
        case rel => exact ⟨i + 1, by omega, by omega, rfl, HP.out ht, below_step hB hb⟩
        case measure => simp [intOf]; omega
    · obtain rfl : i = l0.length := by omega
      have hf := firstOf_none l0 u hpre.out
      have hf2 := hfin.out
      rw [if_neg (by omega)] at hf2
      go_wp2
      go_ret
      exact ⟨by rw [← hf2]; rfl, hB⟩
/-- A row of one's own, not empty, is a block. -/
theorem R_form {α : Type} {d : Kd α} {e base : Nat} {ok : Nat → Prop} {W : World} {v : Value} {xs : List α} (h : d.R e W base ok v xs) (hx : 0 < xs.length) : ∃ g c, v = .slice (some ⟨g, 0, none⟩) xs.length c ∧ base ≤ g := by
  obtain ⟨_, inner, hown, hr⟩ := h
  rcases hown.2 with ⟨_, hn⟩ | ⟨g, cap, cur, hv, hb, _⟩
  · omega
  · exact ⟨g, cap, hv, hb⟩
def mailbox_Take.f (l0 : List S27) (a1 : Int) : Option (Int × Int × ByteArray × Int × Int × List S27 × Int) :=
  if l0.length * 48 ≤ 140737488355328 then
    if firstOf l0 a1 < l0.length then
      let p := rd_T27 l0 (firstOf l0 a1)
      some (p.f0, p.f1, p.f2, p.f3, p.f4, l0.eraseIdx (firstOf l0 a1), 0)
    else some (0, 0, ⟨#[]⟩, 0, 0, [], 5)
  else none
theorem box_cells {W : World} {g : Nat} {a b c d e : Value} (h : W.heap[g]? = some (.cells #[a, b, c, d, e] 27 (0, 0))) :
    W.cell? ⟨g, 0, none⟩ = some a ∧ W.cell? ⟨g, 1, none⟩ = some b ∧ W.cell? ⟨g, 2, none⟩ = some c ∧ W.cell? ⟨g, 3, none⟩ = some d ∧ W.cell? ⟨g, 4, none⟩ = some e ∧
    W.frozen? ⟨g, 0, none⟩ = false ∧ W.frozen? ⟨g, 1, none⟩ = false ∧ W.frozen? ⟨g, 2, none⟩ = false ∧ W.frozen? ⟨g, 3, none⟩ = false ∧ W.frozen? ⟨g, 4, none⟩ = false := by
  refine ⟨?_, ?_, ?_, ?_, ?_, ?_, ?_, ?_, ?_, ?_⟩ <;> simp [World.cell?, World.frozen?, h]
theorem box_put {W : World} {g : Nat} {a b c d e : Value} (h : W.heap[g]? = some (.cells #[a, b, c, d, e] 27 (0, 0))) (v0 v1 v2 v3 v4 : Value) :
    (((((W.setCell ⟨g, 0, none⟩ v0).setCell ⟨g, 1, none⟩ v1).setCell ⟨g, 2, none⟩ v2).setCell ⟨g, 3, none⟩ v3).setCell ⟨g, 4, none⟩ v4).heap[g]? = some (.cells #[v0, v1, v2, v3, v4] 27 (0, 0)) ∧
    W.grownBy (((((W.setCell ⟨g, 0, none⟩ v0).setCell ⟨g, 1, none⟩ v1).setCell ⟨g, 2, none⟩ v2).setCell ⟨g, 3, none⟩ v3).setCell ⟨g, 4, none⟩ v4) (some g) := by
  obtain ⟨cur', h3, h4, h5⟩ := setCells_row [v0, v1, v2, v3, v4] 0 W _ h (by simp)
  obtain ⟨s1, s2, s3, s4⟩ := setCells_same g [v0, v1, v2, v3, v4] 0 W
  have e : cur' = #[v0, v1, v2, v3, v4] := by
    apply Array.toList_inj.1
    rw [h5]; simp
  rw [e] at h3
  exact ⟨h3, s1, s2, s3, by rw [show (((((W.setCell ⟨g, 0, none⟩ v0).setCell ⟨g, 1, none⟩ v1).setCell ⟨g, 2, none⟩ v2).setCell ⟨g, 3, none⟩ v3).setCell ⟨g, 4, none⟩ v4) = W.setCells g 0 [v0, v1, v2, v3, v4] from rfl, s4]; exact Nat.le_refl _, fun k' _ hk' => setCells_far [v0, v1, v2, v3, v4] 0 k' (fun he => hk' (by rw [he]))⟩
theorem delete_wrap (g c : Nat) (xs : List S27) (i j : Int) (hj : j = i + 1) (ok : Nat → Prop) (W0 w : World) (ho : Kd.R k27 27 w W0.heap.size ok (.slice (some ⟨g, 0, none⟩) xs.length c) xs) (hb : Below W0.heap.size W0 w) (h0 : 0 ≤ i) (h1 : i < xs.length) :
    Calls Try.prog 20 #[.slice (some ⟨g, 0, none⟩) xs.length c, .int .i64 i, .int .i64 j] w fun e w' => ∃ v, e = .returned v ∧ Kd.R k27 27 w' W0.heap.size ok v (xs.eraseIdx i.toNat) ∧ Below W0.heap.size W0 w' := by
  subst hj
  exact delete_calls g c xs i _ ok W0 w ho hb h0 h1 rfl
theorem clone_own (A0 : Option Addr) (c0 : Nat) (l0 : List S27) (w : World) (hr0 : Kd.C k27 w A0 l0.length l0) (hc0 : l0.length ≤ c0) (hlim : l0.length * 48 ≤ 140737488355328) (hp : 0 < l0.length) :
    Calls Try.prog 21 #[.slice A0 l0.length c0] w fun e w' => ∃ g c, e = .returned (.slice (some ⟨g, 0, none⟩) l0.length c) ∧ Kd.R k27 27 w' w.heap.size (fun _ => True) (.slice (some ⟨g, 0, none⟩) l0.length c) l0 ∧ Below w.heap.size w w' ∧ w.heap.size ≤ g := by
  refine (clone_calls A0 c0 l0 w hr0 hc0 hlim).mono ?_
  rintro e w' ⟨v, rfl, ho, hb⟩
  obtain ⟨g, c, rfl, hg⟩ := R_form ho hp
  exact ⟨g, c, rfl, ho, hb, hg⟩
set_option maxHeartbeats 1000000 in
set_option maxRecDepth 100000 in
theorem mailbox_Take.calls (A0 : Option Addr) (c0 : Nat) (l0 : List S27) (a1 : Int) (r0 r1 : Int) (r2 : ByteArray) (r3 r4 : Int) (r5 : List S27) (r6 : Int) (w : World) (hr0 : Kd.C k27 w A0 l0.length l0) (hc0 : l0.length ≤ c0) (h : mailbox_Take.f l0 a1 = some (r0, r1, r2, r3, r4, r5, r6)) :
    Calls Try.prog 8 #[.slice A0 l0.length c0, .int .u64 a1] w fun e w' => ∃ v, e = .returned (.tuple #[.agg #[.int .u64 r0, .int .u64 r1, .string r2, .int .i64 r3, .int .u64 r4], v, .int .i64 r6]) ∧ Kd.R k27 27 w' w.heap.size (fun _ => True) v r5 ∧ Below w.heap.size w w' := by
  unfold mailbox_Take.f at h
  split at h
  case isFalse => cases h
  case isTrue hlim =>
  obtain ⟨w1, hw1⟩ : ∃ w1, w.alloc (.cells #[.int .u64 0, .int .u64 0, .string ⟨#[]⟩, .int .i64 0, .int .u64 0] 27 (0, 0)) = w1 := ⟨_, rfl⟩
  have hB1 : Below w.heap.size w w1 := by rw [← hw1]; exact below_alloc (Below.refl _ _) _
  have hsz : w1.heap.size = w.heap.size + 1 := by rw [← hw1]; exact Array.size_push _
  have hnew : w1.heap[w.heap.size]? = some (.cells #[.int .u64 0, .int .u64 0, .string ⟨#[]⟩, .int .i64 0, .int .u64 0] 27 (0, 0)) := by rw [← hw1]; exact heap_alloc_new _ _
  have hr1 : Kd.C k27 w1 A0 l0.length l0 := Kd.C_below hr0 hB1
  have hI := index_calls A0 c0 l0 a1 w1 hr1 hc0 (by omega)
  by_cases hf : firstOf l0 a1 < l0.length
  · rw [if_pos hf] at h hI
    injection h with h
    injection h with e0 h; injection h with e1 h; injection h with e2 h; injection h with e3 h; injection h with e4 h; injection h with e5 e6
    obtain ⟨i, hi⟩ : ∃ i : Int, (firstOf l0 a1 : Int) = i := ⟨_, rfl⟩
    obtain ⟨p, hp⟩ : ∃ p, rd_T27 l0 i = p := ⟨_, rfl⟩
    have h0 : 0 ≤ i := by omega
    have h1 : i < l0.length := by omega
    have hi2 : firstOf l0 a1 = i.toNat := by omega
    rw [hi] at e0 e1 e2 e3 e4 hI
    rw [hi2] at e5
    rw [hp] at e0 e1 e2 e3 e4
    subst e0 e1 e2 e3 e4 e5 e6
    obtain ⟨ad, eA, _⟩ := at_T27 hr1 i h0 h1
    subst eA
    have hq : Hid (∀ W, Below w1.heap.size w1 W → W.cell? (ad.add (i.toNat * 5)) = some (.int .u64 p.f0) ∧ W.cell? ⟨(ad.add (i.toNat * 5)).block, (ad.add (i.toNat * 5)).off + 1, none⟩ = some (.int .u64 p.f1) ∧ W.cell? ⟨(ad.add (i.toNat * 5)).block, (ad.add (i.toNat * 5)).off + 2, none⟩ = some (.string p.f2) ∧ W.cell? ⟨(ad.add (i.toNat * 5)).block, (ad.add (i.toNat * 5)).off + 3, none⟩ = some (.int .i64 p.f3) ∧ W.cell? ⟨(ad.add (i.toNat * 5)).block, (ad.add (i.toNat * 5)).off + 4, none⟩ = some (.int .u64 p.f4)) := Lib.hid fun W hW => by
      obtain ⟨ad', e, q⟩ := at_T27 (Kd.C_below hr1 hW) i h0 h1
      cases e
      rw [hp] at q
      exact q
    have hwr : wrap64 (i + 1) = i + 1 := by unfold wrap64; omega
    clear hf hi hi2 hp
    replace hI := Aside0.mk hI
    replace hnew := Lib.hid hnew
    go_enter Try.func8, Try.ntmps8
    go_wp2_with (go_at_call 19; refine hI.out.mono ?_; rintro e w2 ⟨rfl, hb⟩; have HB := Aside0.mk hb; clear hb hI)
    refine start_ (n := 13) (S := fun w' => w'.cell? (ad.add (i.toNat * 5)) = some (.int .u64 p.f0) ∧ w'.cell? ⟨(ad.add (i.toNat * 5)).block, (ad.add (i.toNat * 5)).off + 1, none⟩ = some (.int .u64 p.f1) ∧ w'.cell? ⟨(ad.add (i.toNat * 5)).block, (ad.add (i.toNat * 5)).off + 2, none⟩ = some (.string p.f2) ∧ w'.cell? ⟨(ad.add (i.toNat * 5)).block, (ad.add (i.toNat * 5)).off + 3, none⟩ = some (.int .i64 p.f3) ∧ w'.cell? ⟨(ad.add (i.toNat * 5)).block, (ad.add (i.toNat * 5)).off + 4, none⟩ = some (.int .u64 p.f4)) (ds := [10]) #[false, false, false, false, false, false, false, false, false, false, false, false, false] (by kernel_rfl) rfl rfl ⟨(hq.out _ HB.out.drew).1, (hq.out _ HB.out.drew).2.1, (hq.out _ HB.out.drew).2.2.1, (hq.out _ HB.out.drew).2.2.2.1, (hq.out _ HB.out.drew).2.2.2.2⟩ (fun hHeld => ?_)
    refine pure_ (i := 0) (N := some 17) (v := ?_) (a' := ?_) #[true, false, false, false, false, false, false, false, false, false, false, false, false] rfl rfl (by kernel_rfl) (fun _ _ _ h => h) (Or.inl ⟨by rfl, ?_⟩) ?_ ?_
    rotate_left
    · intro w'
      go_simp
      with_reducible rfl
    rotate_left
    · simp only [Act.put, List.setIfInBounds_toArray, List.set_cons_zero, List.set_cons_succ, i64_w, i32_w]
      rfl
    refine pure_ (i := 1) (N := some 18) (v := ?_) (a' := ?_) #[true, true, false, false, false, false, false, false, false, false, false, false, false] rfl rfl (by kernel_rfl) (fun _ _ _ h => h) (Or.inl ⟨by rfl, ?_⟩) ?_ ?_
    rotate_left
    · intro w'
      go_simp
      with_reducible rfl
    rotate_left
    · simp only [Act.put, List.setIfInBounds_toArray, List.set_cons_zero, List.set_cons_succ, i64_w, i32_w]
      rfl
    refine pure_ (i := 2) (N := some 19) (v := ?_) (a' := ?_) #[true, true, true, false, false, false, false, false, false, false, false, false, false] rfl rfl (by kernel_rfl) (fun _ _ _ h => h) (Or.inl ⟨by rfl, ?_⟩) ?_ ?_
    rotate_left
    · intro w'
      go_simp
      with_reducible rfl
    rotate_left
    · simp only [Act.put, List.setIfInBounds_toArray, List.set_cons_zero, List.set_cons_succ, i64_w, i32_w]
      rfl
    refine pure_ (i := 4) (N := some 21) (v := ?_) (a' := ?_) #[true, true, true, false, true, false, false, false, false, false, false, false, false] rfl rfl (by kernel_rfl) (fun _ _ _ h => h) (Or.inl ⟨by rfl, ?_⟩) ?_ ?_
    rotate_left
    · intro w'
      go_simp
      with_reducible rfl
    rotate_left
    · simp only [Act.put, List.setIfInBounds_toArray, List.set_cons_zero, List.set_cons_succ, i64_w, i32_w]
      rfl
    refine pure_ (i := 6) (N := some 23) (v := ?_) (a' := ?_) #[true, true, true, false, true, false, true, false, false, false, false, false, false] rfl rfl (by kernel_rfl) (fun _ _ _ h => h) (Or.inl ⟨by rfl, ?_⟩) ?_ ?_
    rotate_left
    · intro w'
      go_simp
      with_reducible rfl
    rotate_left
    · simp only [Act.put, List.setIfInBounds_toArray, List.set_cons_zero, List.set_cons_succ, i64_w, i32_w]
      rfl
    refine pure_ (i := 7) (N := some 24) (v := ?_) (a' := ?_) #[true, true, true, false, true, false, true, true, false, false, false, false, false] rfl rfl (by kernel_rfl) (fun _ _ _ h => h) (Or.inl ⟨by rfl, ?_⟩) ?_ ?_
    rotate_left
    · intro w'
      go_simp
      with_reducible rfl
    rotate_left
    · simp only [Act.put, List.setIfInBounds_toArray, List.set_cons_zero, List.set_cons_succ, i64_w, i32_w]
      rfl
    refine pure_ (i := 8) (N := some 25) (v := ?_) (a' := ?_) #[true, true, true, false, true, false, true, true, true, false, false, false, false] rfl rfl (by kernel_rfl) (fun _ _ _ h => h) (Or.inl ⟨by rfl, ?_⟩) ?_ ?_
    rotate_left
    · intro w'
      go_simp
      with_reducible rfl
    rotate_left
    · simp only [Act.put, List.setIfInBounds_toArray, List.set_cons_zero, List.set_cons_succ, i64_w, i32_w]
      rfl
    refine take_ (i := 3) (N := some 20) (v := ?_) (a' := ?_) #[true, true, true, true, true, false, true, true, true, false, false, false, false] rfl rfl (by kernel_rfl) (fun _ _ _ h => h) (Or.inl ⟨by rfl, ?_⟩) hHeld ?_ ?_
    rotate_left
    · rintro w' ⟨s0, s1, s2, s3, s4⟩
      go_simp
      with_reducible rfl
    rotate_left
    · simp only [Act.put, List.setIfInBounds_toArray, List.set_cons_zero, List.set_cons_succ, i64_w, i32_w]
      rfl
    refine one_ (i := 5) (N := some 22) #[true, true, true, true, true, true, true, true, true, false, false, false, false] rfl rfl (by kernel_rfl) (by decide) (fun K hK => ?_)
    refine goes_ Try.func21 (by kernel_rfl) rfl #[.slice (some ad) l0.length c0] (by rfl) rfl rfl (by simp only [List.map_toArray, List.map_cons, List.map_nil]; rfl) ?_
    with_reducible refine (clone_own (some ad) c0 l0 _ (Kd.C_below hr1 HB.out.drew) hc0 hlim (by omega)).mono ?_
    rintro e w3 ⟨g, c, rfl, ho, hb, hg⟩
    refine ⟨_, rfl, ?_⟩
    have HO := Aside0.mk (Kd.R_lower ho HB.out.drew.size)
    have n0_ := Aside0.mk (below_step HB.out.drew hb)
    clear HB ho hb
    have HB := n0_
    clear n0_
    refine hK.out _ _ ⟨(hq.out _ HB.out).1, (hq.out _ HB.out).2.1, (hq.out _ HB.out).2.2.1, (hq.out _ HB.out).2.2.2.1, (hq.out _ HB.out).2.2.2.2⟩ (fun hHeld => ?_)
    clear hK K
    refine norm_ (a' := ?_) ?_ ?_
    rotate_left
    · show Act.put _ (some 22) _ = _
      simp only [Act.put, List.setIfInBounds_toArray, List.set_cons_zero, List.set_cons_succ, i64_w, i32_w]
      rfl
    refine one_ (i := 9) (N := some 26) #[true, true, true, true, true, true, true, true, true, true, false, false, false] rfl rfl (by kernel_rfl) (by decide) (fun K hK => ?_)
    refine goes_ Try.func20 (by kernel_rfl) rfl #[.slice (some ⟨g, 0, none⟩) l0.length c, .int .i64 i, .int .i64 (wrap64 (i + 1))] (by rfl) rfl rfl (by simp only [List.map_toArray, List.map_cons, List.map_nil]; rfl) ?_
    with_reducible refine (delete_wrap g c l0 i _ hwr (fun _ => True) w1 _ HO.out HB.out h0 h1).mono ?_
    rintro e w6 ⟨v, rfl, ho, hb⟩
    refine ⟨_, rfl, ?_⟩
    have HR := Aside0.mk ho
    clear HO HB ho
    have HB := Aside0.mk hb
    clear hb
    refine hK.out _ _ ⟨(hq.out _ HB.out).1, (hq.out _ HB.out).2.1, (hq.out _ HB.out).2.2.1, (hq.out _ HB.out).2.2.2.1, (hq.out _ HB.out).2.2.2.2⟩ (fun hHeld => ?_)
    clear hK K
    refine norm_ (a' := ?_) ?_ ?_
    rotate_left
    · show Act.put _ (some 26) _ = _
      simp only [Act.put, List.setIfInBounds_toArray, List.set_cons_zero, List.set_cons_succ, i64_w, i32_w]
      rfl
    refine last_ (i := 10) (N := none) #[true, true, true, true, true, true, true, true, true, true, true, false, false] rfl rfl (by kernel_rfl) (by decide) (fun K hK => ?_)
    have hbox := (HB.out.block _ (by omega)).trans hnew.out
    obtain ⟨z0, z1, z2, z3, z4, y0, y1, y2, y3, y4⟩ := box_cells hbox
    refine skip_ (w1 := (((((w6.setCell ⟨w.heap.size, 0, none⟩ (.int .u64 p.f0)).setCell ⟨w.heap.size, 1, none⟩ (.int .u64 p.f1)).setCell ⟨w.heap.size, 2, none⟩ (.string p.f2)).setCell ⟨w.heap.size, 3, none⟩ (.int .i64 p.f3)).setCell ⟨w.heap.size, 4, none⟩ (.int .u64 p.f4))) (by rfl) rfl ?_ ?_
    · go_simp
    clear z0 z1 z2 z3 z4 y0 y1 y2 y3 y4
    have HX := Aside0.mk (box_put hbox (.int .u64 p.f0) (.int .u64 p.f1) (.string p.f2) (.int .i64 p.f3) (.int .u64 p.f4))
    clear hbox
    generalize (((((w6.setCell ⟨w.heap.size, 0, none⟩ (.int .u64 p.f0)).setCell ⟨w.heap.size, 1, none⟩ (.int .u64 p.f1)).setCell ⟨w.heap.size, 2, none⟩ (.string p.f2)).setCell ⟨w.heap.size, 3, none⟩ (.int .i64 p.f3)).setCell ⟨w.heap.size, 4, none⟩ (.int .u64 p.f4)) = w7 at HX ⊢
    refine hK.out _ _ ?_
    clear hK K
    refine pure_ (i := 11) (N := some 5) (v := ?_) (a' := ?_) #[true, true, true, true, true, true, true, true, true, true, true, true, false] rfl rfl (by kernel_rfl) (fun _ _ _ h => h) (Or.inl ⟨by rfl, ?_⟩) ?_ ?_
    rotate_left
    · intro w'
      go_simp
      with_reducible rfl
    rotate_left
    · simp only [Act.put, List.setIfInBounds_toArray, List.set_cons_zero, List.set_cons_succ, i64_w, i32_w]
      rfl
    refine pure_ (i := 12) (N := some 6) (v := ?_) (a' := ?_) #[true, true, true, true, true, true, true, true, true, true, true, true, true] rfl rfl (by kernel_rfl) (fun _ _ _ h => h) (Or.inl ⟨by rfl, ?_⟩) ?_ ?_
    rotate_left
    · intro w'
      go_simp
      with_reducible rfl
    rotate_left
    · simp only [Act.put, List.setIfInBounds_toArray, List.set_cons_zero, List.set_cons_succ, i64_w, i32_w]
      rfl
    refine done_ (by kernel_rfl) ?_
    have hR := Kd.R_mono (ok' := fun _ => True) (Kd.R_grown (Kd.R_bound HR.out) HX.out.2 (fun k hk e => by injection e with e; omega)) (fun _ _ => trivial)
    have hR2 := Kd.R_lower (base' := w.heap.size) hR (by omega)
    go_wp2
    refine bodyPost_ret (results_ctt rfl _ _ w.heap.size 27 _ (0, 0) _ rfl HX.out.1 Try.underlying27 rfl (by kernel_rfl)) rfl ?_
    exact ⟨_, rfl, hR2, pw_below_grown (below_step hB1 HB.out) _ (below_step hB1 HB.out).size HX.out.2 (fun k hk => by injection hk with hk; omega)⟩
  · rw [if_neg hf] at h hI
    injection h with h
    injection h with e0 h; injection h with e1 h; injection h with e2 h; injection h with e3 h; injection h with e4 h; injection h with e5 e6
    subst e0 e1 e2 e3 e4 e5 e6
    clear hf
    replace hI := Aside0.mk hI
    replace hnew := Lib.hid hnew
    go_enter Try.func8, Try.ntmps8
    go_wp2_with (go_at_call 19; refine hI.out.mono ?_; rintro e w2 ⟨rfl, hb⟩; obtain ⟨z0, z1, z2, z3, z4, y0, y1, y2, y3, y4⟩ := box_cells ((hb.block _ (by omega)).trans hnew.out); clear hI hr1)
    have HX := box_put ((hb.block _ (by omega)).trans hnew.out) (.int .u64 0) (.int .u64 0) (.string ⟨#[]⟩) (.int .i64 0) (.int .u64 0)
    refine bodyPost_ret (results_ctt rfl _ _ w.heap.size 27 _ (0, 0) _ rfl HX.1 Try.underlying27 rfl (by kernel_rfl)) rfl ?_
    exact ⟨_, rfl, Kd.R_nil _ _ _ _ _, pw_below_grown (below_step hB1 hb) _ (below_step hB1 hb).size HX.2 (fun k hk => by injection hk with hk; omega)⟩
end Go.Proofs.Ytganchnnfjdooaa.Q
