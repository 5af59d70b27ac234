/- demurrallaw16.few: at most ten boxes, of at most 18 mails each; from the printed walk.
   Conditions: the relay is read as one. -/
import Derived.Test.YtbmfcikjhnnnbaaHPure2
import Derived.Test.YtbmfcikjhnnnbaaQx108
import Derived.Test.YtbmfcikjhnnnbaaHOpen
import Derived.Test.YtbmfcikjhnnnbaaHField
import Derived.Test.YtbmfcikjhnnnbaaHPush
namespace Go.Proofs.Ytbmfcikjhnnnbaa.Q
open Go.RowKit Go.Proofs.YtbmfcikjhnnnbaaW.PrintWords Go.Proofs.YtbmfcikjhnnnbaaW.PrintLast Go.Proofs.YtbmfcikjhnnnbaaW.PrintMore
set_option linter.unusedVariables false
set_option linter.unusedSimpArgs false

def cutB (b : S57) : S57 := { b with f1 := b.f1.take 18 }
def fewL (l : List S57) : List S57 := (l.take 10).map cutB
theorem few_snoc (l : List S57) (i : Nat) (hi : i < l.length) : (l.take (i + 1)).map cutB = (l.take i).map cutB ++ [cutB (rd_T57 l (i : Int))] := by
  rw [List.take_succ_eq_append_getElem hi, List.map_append, rd57_nat l i hi]
  rfl
theorem mn_nat (a b : Nat) : mn (a : Int) (b : Int) = ((min a b : Nat) : Int) := by unfold mn; split <;> omega
theorem few_l0 (y : List S57) (hl : y.length ≤ 1000000) (l0 : List S57) (now next : Int) : ∀ (m k i : Nat), i + m = y.length → m < k →
    demurrallaw16_few.l0 k ((y.take i).map cutB) y (y.length : Int) (i : Int) l0 now next = some (y.map cutB, now, next) := by
  intro m
  induction m with
  | zero =>
    intro k i hi hk
    obtain ⟨k, rfl⟩ : ∃ k', k = k' + 1 := ⟨k - 1, by omega⟩
    rw [demurrallaw16_few.l0, if_neg (by omega), List.take_of_length_le (by omega)]
  | succ m ih =>
    intro k i hi hk
    obtain ⟨k, rfl⟩ : ∃ k', k = k' + 1 := ⟨k - 1, by omega⟩
    have hmn := mn_nat (rd_T57 y (i : Int)).f1.length 18
    rw [demurrallaw16_few.l0, if_pos (by omega), if_pos (by omega), if_pos (by omega)]
    rw [show ((18 : Nat) : Int) = 18 from rfl] at hmn
    rw [hmn, if_pos (by omega), if_pos (by omega), if_pos (by rw [List.length_map, List.length_take]; omega), nx i (by omega), Int.toNat_natCast]
    have hc : ((⟨(rd_T57 y (i : Int)).f0, (rd_T57 y (i : Int)).f1.take (min (rd_T57 y (i : Int)).f1.length 18)⟩ : S57)) = cutB (rd_T57 y (i : Int)) := by
      unfold cutB
      congr 1
      rcases Nat.le_total (rd_T57 y (i : Int)).f1.length 18 with h | h
      · rw [Nat.min_eq_left h, List.take_of_length_le (Nat.le_refl _), List.take_of_length_le h]
      · rw [Nat.min_eq_right h]
    rw [hc, ← few_snoc y i (by omega), ih k (i + 1) (by omega) (by omega)]
theorem few_f (l : List S57) (now next : Int) (k : Nat) (hk : 20 ≤ k) : demurrallaw16_few.f k l now next = some (fewL l, now, next) := by
  have hmn := mn_nat l.length 10
  rw [show ((10 : Nat) : Int) = 10 from rfl] at hmn
  unfold demurrallaw16_few.f fewL
  rw [hmn, if_pos (by omega), if_pos (by omega), Option.bind_some, Int.toNat_natCast]
  have ht : l.take (min l.length 10) = l.take 10 := by
    rcases Nat.le_total l.length 10 with h | h
    · rw [Nat.min_eq_left h, List.take_of_length_le (Nat.le_refl _), List.take_of_length_le h]
    · rw [Nat.min_eq_right h]
  rw [ht]
  exact few_l0 (l.take 10) (by rw [List.length_take]; omega) l now next (l.take 10).length k 0 (by omega) (by rw [List.length_take]; omega)
theorem small_few {l : List S57} (h : good22 l) : smallR (fewL l) := by
  have hm : ∀ s ∈ fewL l, ∃ t ∈ l, s = cutB t := by
    intro s hs
    obtain ⟨t, ht, rfl⟩ := List.mem_map.1 hs
    exact ⟨t, List.mem_of_mem_take ht, rfl⟩
  refine ⟨by unfold fewL; rw [List.length_map, List.length_take]; omega, fun s hs => ?_⟩
  obtain ⟨t, ht, rfl⟩ := hm s hs
  have hg := (h.2 t ht).2.2
  refine ⟨by show (t.f1.take 18).length ≤ 18; rw [List.length_take]; omega, fun m hm' => ?_, fun m hm' => ?_⟩
  · have := (hg m (List.mem_of_mem_take hm')).2.1
    exact Nat.le_trans this (by decide)
  · exact (bounds_u64 (hg m (List.mem_of_mem_take hm')).2.2).1
/-- What is read in every world that holds the old blocks. -/
theorem sees_C57 {w0 w : World} {A : Option Addr} {n : Nat} {xs : List S57} (h : Sees w0 w) (hC : k57.C w0 A n xs) : k57.C w A n xs :=
  ⟨hC.1, hC.2.1, fun hn => by
    obtain ⟨ad, e, hc⟩ := hC.2.2 hn
    refine ⟨ad, e, fun j p hj => ?_⟩
    obtain ⟨c, hs, hr, hcell⟩ := hc j p hj
    exact ⟨c, hs, sees_K57 h hr, fun i u hu => h _ _ (hcell i u hu)⟩⟩
theorem sees_old {w w' : World} (h : ∀ k, k < w.heap.size → w'.heap[k]? = w.heap[k]?) : Sees w w' := fun p v hp => by
  have hlt : p.block < w.heap.size := by
    rcases Nat.lt_or_ge p.block w.heap.size with hl | hl
    · exact hl
    · unfold World.cell? at hp
      rw [Array.getElem?_eq_none (by omega)] at hp
      cases hp
  unfold World.cell? at hp ⊢
  rwa [h _ hlt]
/-- A row that is read is one of the blocks that there are. -/
theorem V_of57 {w : World} {A : Option Addr} {c : Nat} {l : List S57} (hC : k57.C w A l.length l) (hc : l.length ≤ c) : Kd.V k57 57 w w.heap.size (fun k => k < w.heap.size) (.slice A l.length c) l :=
  ⟨A, c, rfl, hc, fun w' hw => sees_C57 (sees_old fun k hk => hw k hk hk) hC⟩
theorem V_of54 {w : World} {A : Option Addr} {c : Nat} {l : List S54} (hC : k54.C w A l.length l) (hc : l.length ≤ c) : Kd.V k54 54 w w.heap.size (fun k => k < w.heap.size) (.slice A l.length c) l :=
  ⟨A, c, rfl, hc, fun w' hw => sees_C54 (sees_old fun k hk => hw k hk hk) hC⟩
theorem few_calls (A0 : Option Addr) (c0 : Nat) (l0 : List S57) (now next : Int) (w : World) (hr0 : Kd.C k57 w A0 l0.length l0) (hc0 : l0.length ≤ c0) :
    Calls Try.prog 8 #[rv A0 l0.length c0 now next] w fun e w' => ∃ A c, e = .returned (rv A (fewL l0).length c now next) ∧ (fewL l0).length ≤ c ∧ k57.C w' A (fewL l0).length (fewL l0) ∧ Below w.heap.size w w' := by
  refine (demurrallaw16_few.calls 20 _ A0 c0 l0 now next _ _ _ w (V_of57 hr0 hc0) (few_f l0 now next 20 (Nat.le_refl _))).mono ?_
  rintro e w' ⟨v, rfl, hN, hb⟩
  obtain ⟨A, c, rfl, h1, h2⟩ := Kd.N_reads hN
  exact ⟨A, c, rfl, h1, h2, hb⟩
end Go.Proofs.Ytbmfcikjhnnnbaa.Q
namespace Go.Proofs.Ytbmfcikjhnnnbaa.Q
open Go.RowKit Go.Proofs.YtbmfcikjhnnnbaaW.PrintWords Go.Proofs.YtbmfcikjhnnnbaaW.PrintLast Go.Proofs.YtbmfcikjhnnnbaaW.PrintMore
set_option linter.unusedVariables false
set_option linter.unusedSimpArgs false

/-- Where a user stands: all ahead are lower, all behind are not. -/
theorem found_parts {now next : Int} {l : List S57} {u : Int} {i : Nat} {is : Bool} (h : rowB now next l = true) (hf : foundR l u i is) :
    (∀ t : Nat, t < i → (rd_T57 l (t : Int)).f0 < u) ∧ ∀ t : Nat, i ≤ t → t < l.length → u ≤ (rd_T57 l (t : Int)).f0 := by
  obtain ⟨h1, h2, h3, h4⟩ := hf
  refine ⟨fun t ht => ?_, fun t ht hl => ?_⟩
  · have hp := h2 (by omega)
    by_cases e : t = i - 1
    · subst e; exact hp
    · have := right_rises h (i - 1) t (by omega) (by omega)
      omega
  · have hp := h3 (by omega)
    by_cases e : t = i
    · subst e; exact hp
    · have := right_rises h t i (by omega) hl
      omega
theorem mem_take57 {l : List S57} {i : Nat} {b : S57} (h : b ∈ l.take i) : ∃ t : Nat, t < i ∧ t < l.length ∧ b = rd_T57 l (t : Int) := by
  obtain ⟨t, ht, rfl⟩ := List.getElem_of_mem h
  rw [List.length_take] at ht
  exact ⟨t, by omega, by omega, by rw [List.getElem_take, rd57_nat l t (by omega)]⟩
theorem mem_drop57 {l : List S57} {i : Nat} {b : S57} (h : b ∈ l.drop i) : ∃ t : Nat, i ≤ t ∧ t < l.length ∧ b = rd_T57 l (t : Int) := by
  obtain ⟨t, ht, rfl⟩ := List.getElem_of_mem h
  rw [List.length_drop] at ht
  exact ⟨i + t, by omega, by omega, by rw [List.getElem_drop, rd57_nat l (i + t) (by omega)]⟩
theorem filter_lo {now next : Int} {l : List S57} {u : Int} {i : Nat} {is : Bool} (h : rowB now next l = true) (hf : foundR l u i is) : l.filter (fun b => decide (b.f0 < u)) = l.take i := by
  obtain ⟨hlo, hhi⟩ := found_parts h hf
  have e1 : (l.take i).filter (fun b => decide (b.f0 < u)) = l.take i := List.filter_eq_self.2 fun b hb => by
    obtain ⟨t, h1, _, rfl⟩ := mem_take57 hb
    exact decide_eq_true (hlo t h1)
  have e2 : (l.drop i).filter (fun b => decide (b.f0 < u)) = [] := List.filter_eq_nil_iff.2 fun b hb => by
    obtain ⟨t, h1, h2, rfl⟩ := mem_drop57 hb
    have := hhi t h1 h2
    simpa using this
  have e3 : l.filter (fun b => decide (b.f0 < u)) = (l.take i ++ l.drop i).filter (fun b => decide (b.f0 < u)) := by rw [List.take_append_drop]
  rw [e3, List.filter_append, e1, e2, List.append_nil]
theorem filter_hi {now next : Int} {l : List S57} {u : Int} {i : Nat} {is : Bool} (h : rowB now next l = true) (hf : foundR l u i is) : l.filter (fun b => decide (u < b.f0)) = if is = true then l.drop (i + 1) else l.drop i := by
  obtain ⟨hlo, hhi⟩ := found_parts h hf
  have e1 : (l.take i).filter (fun b => decide (u < b.f0)) = [] := List.filter_eq_nil_iff.2 fun b hb => by
    obtain ⟨t, h1, _, rfl⟩ := mem_take57 hb
    have := hlo t h1
    simp only [decide_eq_true_eq]
    omega
  have e3 : l.filter (fun b => decide (u < b.f0)) = (l.take i ++ l.drop i).filter (fun b => decide (u < b.f0)) := by rw [List.take_append_drop]
  rw [e3, List.filter_append, e1, List.nil_append]
  cases is with
  | true =>
    obtain ⟨hi, hu⟩ := found_yes hf
    rw [if_pos rfl, drop_rd57 l i hi, List.filter_cons, if_neg (by rw [hu]; simp)]
    refine List.filter_eq_self.2 fun b hb => ?_
    obtain ⟨t, h1, h2, rfl⟩ := mem_drop57 hb
    have := right_rises h t i (by omega) h2
    exact decide_eq_true (by omega)
  | false =>
    rw [if_neg (by decide)]
    refine List.filter_eq_self.2 fun b hb => ?_
    obtain ⟨t, h1, h2, rfl⟩ := mem_drop57 hb
    have h3 := hhi t h1 h2
    have h4 := found_no h hf t h2
    exact decide_eq_true (by omega)
theorem mails_at {now next : Int} {l : List S57} {u : Int} {i : Nat} {is : Bool} (h : rowB now next l = true) (hf : foundR l u i is) : mailsL l u = if is = true then (rd_T57 l (i : Int)).f1 else [] := by
  obtain ⟨hlo, hhi⟩ := found_parts h hf
  unfold mailsL
  cases is with
  | true =>
    obtain ⟨hi, hu⟩ := found_yes hf
    have e1 : (l.take i).find? (fun b => b.f0 == u) = none := List.find?_eq_none.2 fun b hb => by
      obtain ⟨t, h1, _, rfl⟩ := mem_take57 hb
      have := hlo t h1
      simp only [beq_iff_eq]
      omega
    have e3 : l.find? (fun b => b.f0 == u) = (l.take i ++ l.drop i).find? (fun b => b.f0 == u) := by rw [List.take_append_drop]
    rw [if_pos rfl, e3, List.find?_append, e1, drop_rd57 l i hi, List.find?_cons, show ((rd_T57 l (i : Int)).f0 == u) = true from beq_iff_eq.2 hu]
    rfl
  | false =>
    have e1 : l.find? (fun b => b.f0 == u) = none := List.find?_eq_none.2 fun b hb => by
      obtain ⟨t, ht, rfl⟩ := List.getElem_of_mem hb
      rw [← rd57_nat l t ht]
      have := found_no h hf t ht
      simpa using this
    rw [if_neg (by decide), e1]
    rfl
theorem with_at {now next : Int} {l : List S57} {u : Int} {i : Nat} {is : Bool} (h : rowB now next l = true) (hf : foundR l u i is) (ms : List S54) (hm : 0 < ms.length) : withL l u ms = if is = true then l.set i { f0 := u, f1 := ms } else l.take i ++ { f0 := u, f1 := ms } :: l.drop i := by
  unfold withL
  rw [filter_lo h hf, filter_hi h hf, if_pos hm]
  cases is with
  | true =>
    obtain ⟨hi, hu⟩ := found_yes hf
    rw [if_pos rfl, if_pos rfl, List.set_eq_take_append_cons_drop, if_pos hi]
    rfl
  | false =>
    rw [if_neg (by decide), if_neg (by decide)]
    rfl
theorem row_mails {now next : Int} {l : List S57} (h : rowB now next l = true) (i : Nat) (hi : i < l.length) : 1 ≤ (rd_T57 l (i : Int)).f1.length := by
  unfold rowB at h
  have h2 := List.all_eq_true.1 h i (List.mem_range.2 hi)
  unfold okS boxB at h2
  rw [Bool.and_eq_true, Bool.and_eq_true, Bool.and_eq_true] at h2
  exact of_decide_eq_true h2.1.2.1
theorem push_why {l : List S57} {now next u : Int} {s : ByteArray} {e : Ending} {w' : World} (hP : PushE l now next u s e w') :
    (∃ q, e = .returned (.tuple #[zerR, .int .i64 q]) ∧ q ≠ 0 ∧ whyL l now next u s = q) ∨
    (∃ A c, e = .returned (.tuple #[rv A (pushL l now next u s).length c now (next + 1), .int .i64 0]) ∧ (pushL l now next u s).length ≤ c ∧ k57.C w' A (pushL l now next u s).length (pushL l now next u s) ∧ whyL l now next u s = 0) := by
  unfold whyL pushL
  rcases hP with ⟨hR, rfl⟩ | ⟨hR, i, is, old, hf, hold, h⟩
  · exact .inl ⟨1, rfl, by decide, by rw [hR, if_neg (by decide)]⟩
  · have hrow := rel_row hR
    have hm := mails_at hrow hf
    rw [← hold] at hm
    rw [if_pos hR, hm]
    have hlen : (is = false → old.length = 0) ∧ (is = true → 1 ≤ old.length) := by
      constructor
      · intro e_
        rw [e_, if_neg (by decide)] at hold
        rw [hold]
        rfl
      · intro e_
        rw [e_] at hf
        rw [e_, if_pos rfl] at hold
        rw [hold]
        exact row_mails hrow i (found_yes hf).1
    have hfull : (old.length = 16 ∨ (is = false ∧ l.length = 8)) ↔ (old.length = 16 ∨ (old.length = 0 ∧ l.length = 8)) := by
      cases is with
      | true => have := hlen.2 rfl; constructor <;> intro h <;> rcases h with h | ⟨h1, h2⟩ <;> first | exact .inl h | (cases h1; done) | omega
      | false => have := hlen.1 rfl; constructor <;> intro h <;> rcases h with h | ⟨h1, h2⟩ <;> first | exact .inl h | exact .inr ⟨by first | rfl | omega, h2⟩
    rcases h with ⟨h1, rfl⟩ | ⟨h1, h2, rfl⟩ | ⟨h1, h2, h3, rfl⟩ | ⟨h1, h2, h3, h4, rfl⟩ | ⟨h1, h2, h3, h4, lp, A, c, hlp, rfl, hc, hC⟩
    · exact .inl ⟨2, rfl, by decide, by rw [if_pos h1]⟩
    · exact .inl ⟨7, rfl, by decide, by rw [if_neg (by omega), if_pos h2]⟩
    · exact .inl ⟨6, rfl, by decide, by rw [if_neg (by omega), h2, if_neg (by decide), if_pos (hfull.1 h3)]⟩
    · exact .inl ⟨1, rfl, by decide, by rw [if_neg (by omega), h2, if_neg (by decide), if_neg (fun h => h3 (hfull.2 h)), if_pos h4]⟩
    · right
      rw [with_at hrow hf _ (by simp), ← hlp]
      exact ⟨A, c, rfl, hc, hC, by rw [if_neg (by omega), h2, if_neg (by decide), if_neg (fun h => h3 (hfull.2 h)), if_neg h4]⟩
end Go.Proofs.Ytbmfcikjhnnnbaa.Q
namespace Go.Proofs.Ytbmfcikjhnnnbaa.Q
open Go.RowKit Go.Proofs.YtbmfcikjhnnnbaaW.PrintWords Go.Proofs.YtbmfcikjhnnnbaaW.PrintLast Go.Proofs.YtbmfcikjhnnnbaaW.PrintMore
set_option linter.unusedVariables false
set_option linter.unusedSimpArgs false

abbrev hiA : ByteArray := ⟨#[104, 105]⟩
def mA : S54 := { f0 := 0, f1 := hiA, f2 := 0 }
def bA : S57 := { f0 := 3, f1 := [mA] }
theorem rel_nil : relB [] 0 0 = true := rfl
theorem rel_bA : relB [bA] 0 1 = true := by decide
theorem wf_bA : wfB [bA] := by
  intro s hs
  obtain rfl : s = bA := by simpa using hs
  refine ⟨by decide, ?_, ?_⟩
  · intro m hm
    obtain rfl : m = mA := by simpa [bA] using hm
    decide
  · intro m hm
    obtain rfl : m = mA := by simpa [bA] using hm
    decide
theorem alive_push {e : Ending} {w' : World} (h : PushE [] 0 0 3 hiA e w') : ∃ A c, e = .returned (.tuple #[rv A 1 c 0 1, .int .i64 0]) ∧ 1 ≤ c ∧ k57.C w' A 1 [bA] := by
  rcases h with ⟨h, _⟩ | ⟨_, i, is, old, hf, ho, h⟩
  · rw [rel_nil] at h; cases h
  · obtain rfl : i = 0 := Nat.le_zero.1 hf.1
    obtain rfl : is = false := hf.2.2.2
    rw [if_neg (by decide)] at ho
    subst ho
    rcases h with ⟨h, _⟩ | ⟨_, h, _⟩ | ⟨_, _, h, _⟩ | ⟨_, _, _, h, _⟩ | ⟨_, _, _, _, lp, A, c, rfl, he, h1, h2⟩
    · exact absurd h (by decide)
    · cases h
    · simp at h
    · cases h
    · exact ⟨A, c, he, h1, h2⟩
theorem alive_pull {e : Ending} {w' : World} (h : PullE [bA] 0 1 3 e w') : ∃ A c, e = .returned (.tuple #[.slice A 1 c, .int .i64 0]) ∧ k54.C w' A 1 [mA] := by
  rcases h with ⟨h, _⟩ | ⟨_, h, _⟩ | ⟨_, i, x, A, c, hi, hx, _, he, h1, h2⟩
  · rw [rel_bA] at h; cases h
  · exact absurd rfl (h 0 (by simp))
  · obtain rfl : i = 0 := by simpa using hi
    subst hx
    exact ⟨A, c, he, h2⟩
set_option maxHeartbeats 1000000 in
set_option maxRecDepth 100000 in
theorem alive_calls (w : World) : Calls Try.prog 14 #[] w fun e w' => e = .returned (.bool true) ∧ Below w.heap.size w w' := by
  have hP := Aside0.mk (push_calls none 0 [] 0 0 3 hiA w (Kd.C_nil _ _) (Nat.le_refl _) (by simp) (by intro s hs; cases hs) (by decide) (by decide))
  go_enter Try.func14, Try.ntmps14
  go_wp2_with fail
  refine hP.out.mono ?_; rintro e_ w2 ⟨hpe, hb2⟩
  obtain ⟨A, c, rfl, hc, hC⟩ := alive_push hpe
  replace hC := Aside0.mk hC
  clear hpe hP
  go_wp2_with ((with_reducible refine gate_store (t := 25) (p := 1) rfl ?_); go_loud (refine wpList_storeBox rfl rfl 25 (.tmp 1) (.tmp 8) rfl (rv A 1 c 0 1) [.slice A 1 c, .int .u64 0, .int .u64 1] rfl rfl rfl (by kernel_rfl) (by simp [Value.oneCell']) (heap_alloc_new _ _) rfl ?_; intro w3 hK3 hg3 hs3; have hb3 := (below_alloc (Below.refl w2.heap.size w2) (.cells #[.slice none 0 0, .int .u64 0, .int .u64 0] 25 (0, 0))).grown hg3 (below_alloc (Below.refl w2.heap.size w2) (.cells #[.slice none 0 0, .int .u64 0, .int .u64 0] 25 (0, 0))).size (fun k hk => by cases hk; exact Nat.le_refl _); clear hs3 hg3; obtain ⟨z0, z1, z2⟩ := box3 hK3; have hL := Aside0.mk (pull_calls A c [bA] 0 1 3 w3 (Kd.C_below hC.out hb3) hc (by simp) wf_bA (by decide))))
  refine hL.out.mono ?_; rintro e_ w4 ⟨hle, hb4⟩
  obtain ⟨B, d, rfl, hD⟩ := alive_pull hle
  obtain ⟨ad, eA, p0, p1, p2⟩ := at_T54 hD (0 : Int) (by decide) (by decide)
  subst eA
  have e1 : (rd_T54 [mA] (0 : Int)).f1 = hiA := rfl
  have e2 : ad.add (Int.toNat 0 * 3) = ad := by show ad.add 0 = ad; (cases ad; simp [Addr.add])
  rw [e1, e2] at p1
  clear e1 e2 hle hL
  go_wp2
  go_ret
  exact ⟨rfl, below_step hb2 (below_step hb3 hb4)⟩
end Go.Proofs.Ytbmfcikjhnnnbaa.Q
namespace Go.Proofs.Ytbmfcikjhnnnbaa.Q
open Go.RowKit Go.Proofs.YtbmfcikjhnnnbaaW.PrintWords Go.Proofs.YtbmfcikjhnnnbaaW.PrintLast Go.Proofs.YtbmfcikjhnnnbaaW.PrintMore
set_option linter.unusedVariables false
set_option linter.unusedSimpArgs false

theorem V_old57 {w0 w : World} {A : Option Addr} {c : Nat} {l : List S57} (hC : k57.C w0 A l.length l) (hc : l.length ≤ c) (hb : Below w0.heap.size w0 w) : Kd.V k57 57 w w.heap.size (fun k => k < w0.heap.size) (.slice A l.length c) l :=
  ⟨A, c, rfl, hc, fun w' hw => sees_C57 (sees_old fun k hk => (hw k hk (Nat.lt_of_lt_of_le hk hb.size)).trans (hb.block k hk)) hC⟩
theorem few_at (A0 : Option Addr) (c0 : Nat) (l0 l : List S57) (now next : Int) (w0 w : World) (hr0 : Kd.C k57 w0 A0 l0.length l0) (hc0 : l0.length ≤ c0) (hb : Below w0.heap.size w0 w) (hl : fewL l0 = l) :
    Calls Try.prog 8 #[rv A0 l0.length c0 now next] w fun e w' => ∃ A c, e = .returned (rv A l.length c now next) ∧ l.length ≤ c ∧ Kd.N k57 57 w' w.heap.size (fun k => k < w0.heap.size ∨ w.heap.size ≤ k) (.slice A l.length c) l ∧ Below w.heap.size w w' := by
  subst hl
  refine (demurrallaw16_few.calls 20 _ A0 c0 l0 now next _ _ _ w (V_old57 hr0 hc0 hb) (few_f l0 now next 20 (Nat.le_refl _))).mono ?_
  rintro e w' ⟨v, rfl, hN, hb⟩
  obtain ⟨A, c, rfl, h1, h2⟩ := Kd.N_reads hN
  exact ⟨A, c, rfl, h1, hN, hb⟩
theorem eqM_refl (x : S54) : eqM x x = true := by unfold eqM; simp
theorem mailsB_refl (l : List S54) : mailsB l l = true := mailsB_yes rfl (fun i _ => eqM_refl _)
theorem oneB_refl (x : S57) : oneB x x = true := by unfold oneB; rw [mailsB_refl]; simp
theorem sameB_refl (l : List S57) : sameB l l = true := sameB_yes rfl (fun i _ => oneB_refl _)
theorem likeB_refl (l : List S57) (n q : Int) : likeB l l n q n q = true := by unfold likeB; rw [sameB_refl]; simp
theorem withL_small {l : List S57} (hs : smallR l) (u : Int) (ms : List S54) (hm : ms.length ≤ 1000) : (withL l u ms).length ≤ 21 ∧ ∀ x ∈ withL l u ms, x.f1.length ≤ 1000 := by
  unfold withL
  have h1 := List.length_filter_le (fun b : S57 => decide (b.f0 < u)) l
  have h2 := List.length_filter_le (fun b : S57 => decide (u < b.f0)) l
  have h10 := hs.1
  constructor
  · rw [List.length_append, List.length_append]
    split <;> simp only [List.length_singleton, List.length_nil] <;> omega
  · intro x hx
    rcases List.mem_append.1 hx with h | h
    · have := (hs.2 x (List.mem_filter.1 h).1).1
      omega
    · rcases List.mem_append.1 h with h | h
      · split at h
        · obtain rfl := List.mem_singleton.1 h
          exact hm
        · cases h
      · have := (hs.2 x (List.mem_filter.1 h).1).1
        omega
theorem pushL_small {l : List S57} (hs : smallR l) (now next u : Int) (s : ByteArray) : (pushL l now next u s).length ≤ 21 ∧ ∀ x ∈ pushL l now next u s, x.f1.length ≤ 1000 :=
  withL_small hs u _ (by rw [List.length_append, List.length_singleton]; have := mails_small hs u; omega)
end Go.Proofs.Ytbmfcikjhnnnbaa.Q
