/- EquivRecipes: any frame's recipes, and the list that has them, are as the document says, or refused.
   Conditions: the list and the frame are read as such. -/
import Derived.Test.YtenmmeehgnkcpaaHRefEq
import Derived.Test.YtenmmeehgnkcpaaQx132
import Derived.Test.YtenmmeehgnkcpaaQx133
import Derived.Test.YtenmmeehgnkcpaaQx137
namespace Go.Proofs.Ytenmmeehgnkcpaa.Q
open Go.RowKit Go.Proofs.YtenmmeehgnkcpaaW.PrintWords Go.Proofs.YtenmmeehgnkcpaaW.PrintLast Go.Proofs.YtenmmeehgnkcpaaW.PrintMore
set_option linter.unusedVariables false
set_option linter.unusedSimpArgs false

def few22L (l : List S28) : List S28 := if 300 < l.length then l.take 402 else l.take 30
theorem take_mn {α : Type} (l : List α) (n : Nat) : (0 ≤ mn (l.length : Int) (n : Int) ∧ mn (l.length : Int) (n : Int) ≤ l.length) ∧ l.take (mn (l.length : Int) (n : Int)).toNat = l.take n := by
  unfold mn
  split
  · exact ⟨by omega, by rw [Int.toNat_natCast]⟩
  · exact ⟨by omega, by rw [Int.toNat_natCast, List.take_length, List.take_of_length_le (by omega)]⟩
theorem few22_f (l : List S28) : demurrallaw22_few.f l = some (few22L l) := by
  unfold demurrallaw22_few.f few22L
  have h1 : (0 ≤ mn (l.length : Int) 402 ∧ mn (l.length : Int) 402 ≤ l.length) ∧ l.take (mn (l.length : Int) 402).toNat = l.take 402 := take_mn l 402
  have h2 : (0 ≤ mn (l.length : Int) 30 ∧ mn (l.length : Int) 30 ≤ l.length) ∧ l.take (mn (l.length : Int) 30).toNat = l.take 30 := take_mn l 30
  by_cases h : 300 < l.length
  · rw [if_pos (by omega), if_pos h, if_pos h1.1.1, if_pos h1.1.2, h1.2]
  · rw [if_neg (by omega), if_neg h, if_pos h2.1.1, if_pos h2.1.2, h2.2]
theorem cut22_f (a : List Int) : demurrallaw22_cut.f a = some (a.take 7) := by
  unfold demurrallaw22_cut.f
  have h1 : (0 ≤ mn (a.length : Int) 7 ∧ mn (a.length : Int) 7 ≤ a.length) ∧ a.take (mn (a.length : Int) 7).toNat = a.take 7 := take_mn a 7
  rw [if_pos h1.1.1, if_pos h1.1.2, h1.2]
theorem few22_calls (A : Option Addr) (c : Nat) (l : List S28) (w : World) (hC : k28.C w A l.length l) (hc : l.length ≤ c) :
    Calls Try.prog 32 #[.slice A l.length c] w fun e w' => (∃ B d, e = .returned (.slice B (few22L l).length d) ∧ (few22L l).length ≤ d ∧ k28.C w' B (few22L l).length (few22L l)) ∧ Below w.heap.size w w' := by
  refine (demurrallaw22_few.calls _ A c l _ w (V_of28 hC hc) (few22_f l)).mono ?_
  rintro e w' ⟨v0, rfl, h0, hb⟩
  obtain ⟨B, d, rfl⟩ := Kd.V_slice h0
  obtain ⟨_, p1, p2⟩ := Kd.V_reads' h0
  exact ⟨⟨B, d, rfl, p1, p2⟩, hb⟩
theorem cut22_calls (A : Option Addr) (c : Nat) (l : List Int) (w : World) (hC : (Kd.int .i64).C w A l.length l) (hc : l.length ≤ c) :
    Calls Try.prog 33 #[.slice A l.length c] w fun e w' => (∃ B d, e = .returned (.slice B (l.take 7).length d) ∧ (l.take 7).length ≤ d ∧ (Kd.int .i64).C w' B (l.take 7).length (l.take 7)) ∧ Below w.heap.size w w' := by
  refine (demurrallaw22_cut.calls _ A c l _ w (V_ofI hC hc) (cut22_f l)).mono ?_
  rintro e w' ⟨v0, rfl, h0, hb⟩
  obtain ⟨B, d, rfl⟩ := Kd.V_slice h0
  obtain ⟨_, p1, p2⟩ := Kd.V_reads' h0
  exact ⟨⟨B, d, rfl, p1, p2⟩, hb⟩
theorem few22_len (l : List S28) : (few22L l).length ≤ 402 := by
  unfold few22L
  split <;> (rw [List.length_take]; omega)
theorem few22_mem {l : List S28} {t : S28} (h : t ∈ few22L l) : t ∈ l := by
  unfold few22L at h
  split at h <;> exact List.mem_of_mem_take h
theorem same_l0 (m : List S28) (hl : m.length ≤ 1000000) : ∀ (n k i : Nat), i + n = m.length → n < k → demurralref20_Same.l0 k m m (m.length : Int) (i : Int) = some true := by
  intro n
  induction n with
  | zero =>
    intro k i hi hk
    obtain ⟨k, rfl⟩ : ∃ k', k = k' + 1 := ⟨k - 1, by omega⟩
    rw [demurralref20_Same.l0, if_neg (by omega)]
  | succ n ih =>
    intro k i hi hk
    obtain ⟨k, rfl⟩ : ∃ k', k = k' + 1 := ⟨k - 1, by omega⟩
    rw [demurralref20_Same.l0, if_pos (by omega), if_pos (by omega), if_pos (by omega), if_pos (by omega), if_neg (by simp), nx i (by omega), ih k (i + 1) (by omega) (by omega)]
theorem same_f (m : List S28) (hl : m.length ≤ 1000000) : demurralref20_Same.f (m.length + 1) m m = some true := by
  unfold demurralref20_Same.f
  rw [if_pos rfl, show (0 : Int) = ((0 : Nat) : Int) from rfl, same_l0 m hl m.length _ 0 (by omega) (by omega)]
theorem same_calls (A B : Option Addr) (c d : Nat) (m : List S28) (w : World) (hA : k28.C w A m.length m) (hc : m.length ≤ c) (hB : k28.C w B m.length m) (hd : m.length ≤ d) (hl : m.length ≤ 1000000) :
    Calls Try.prog 37 #[.slice A m.length c, .slice B m.length d] w fun e w' => e = .returned (.bool true) ∧ Below w.heap.size w w' :=
  (demurralref20_Same.calls _ A c m B d m true w hA hc hB hd (same_f m hl)).mono fun e w' ⟨h, hb⟩ => ⟨h, hb.below⟩
theorem numbers_calls (A B : Option Addr) (c d : Nat) (p : List Int) (w : World) (hA : (Kd.int .i64).C w A p.length p) (hc : p.length ≤ c) (hB : (Kd.int .i64).C w B p.length p) (hd : p.length ≤ d) (hl : p.length ≤ 1000000) :
    Calls Try.prog 21 #[.slice A p.length c, .slice B p.length d] w fun e w' => e = .returned (.bool true) ∧ Below w.heap.size w w' :=
  (demurralref20_Numbers.calls (p.length + 1) A c p B d p true w hA hc hB hd ((numbers_f p p hl _ (Nat.lt_succ_self _)).trans (by rw [decide_eq_true rfl]))).mono fun e w' ⟨h, hb⟩ => ⟨h, hb.below⟩
set_option maxHeartbeats 2000000 in
set_option maxRecDepth 100000 in
theorem recLaw_walk (A0 : Option Addr) (c0 : Nat) (l0 : List S28) (A1 : Option Addr) (c1 : Nat) (l1 : List Int) (w : World) (hr0 : k28.C w A0 l0.length l0) (hc0 : l0.length ≤ c0) (hr1 : (Kd.int .i64).C w A1 l1.length l1) (hc1 : l1.length ≤ c1) (g0 : good23 l0) (g1 : good33 l1) :
    Calls Try.prog 8 #[.slice A0 l0.length c0, .slice A1 l1.length c1] w fun e w' => e = .returned (.bool true) ∧ Below w.heap.size w w' := by
  have hfew := few22_calls A0 c0 l0 w hr0 hc0
  have hwf : ∀ t ∈ few22L l0, wfT t := fun t ht => wf_of_good g0 t (few22_mem ht)
  have hll := few22_len l0
  generalize few22L l0 = l at hfew hwf hll
  replace hwf := Lib.hid hwf
  replace hfew := Aside0.mk hfew
  replace hr1 := Aside0.mk hr1
  clear hr0 g0 g1
  go_enter Try.func8, Try.ntmps8
  go_wp2_with fail
  refine hfew.out.mono ?_; rintro e_ w1 ⟨⟨A, c, rfl, hc, hC⟩, hb1⟩
  have hcut := cut22_calls A1 c1 l1 w1 (Kd.C_below hr1.out hb1) hc1
  have hfl : (l1.take 7).length ≤ 7 := by rw [List.length_take]; omega
  generalize l1.take 7 = fr at hcut hfl
  replace hcut := Aside0.mk hcut
  replace hC := Aside0.mk hC
  clear hfew hr1
  go_wp2_with fail
  refine hcut.out.mono ?_; rintro e_ w2 ⟨⟨B, d, rfl, hd, hF⟩, hb2⟩
  have hC2 := Kd.C_below hC.out hb2
  have hB2 := below_step hb1 hb2
  have hrec := recipes_calls A c l B d fr w2 hC2 hc (by omega) hwf.out hF hd (by omega)
  have href : ∀ W, Below w2.heap.size w2 W → _ := fun W hW => refRec_calls A c l B d fr W (Kd.C_below hC2 hW) hc (by omega) (Kd.C_below hF hW) hd (by omega)
  rw [refR_eq] at href
  obtain ⟨hml, -, hpl, -⟩ := recR_ok (l := l) (fr := fr) hwf.out
  generalize recR l fr = r at hrec href hml hpl
  replace hrec := Aside0.mk hrec
  replace href := Lib.hid href
  clear hcut hC hC2 hF hb1 hb2
  go_wp2_with fail
  refine hrec.out.mono ?_; rintro e_ w3 ⟨⟨M, cm, P, cp, rfl, hcm, hcp, hCM, hCP⟩, hb3⟩
  have hcall := Aside0.mk (href.out w3 hb3)
  have hB3 := below_step hB2 hb3
  clear hrec href hb3 hB2
  go_wp2_with fail
  refine hcall.out.mono ?_; rintro e_ w4 ⟨⟨v_, rfl, M', cm', P', cp', rfl, hcm', hcp', hCM', hCP'⟩, hb4⟩
  have hCM4 := Kd.C_below hCM hb4
  have hCP4 := Kd.C_below hCP hb4
  have hB4 := below_step hB3 hb4
  obtain ⟨w5, hw5⟩ : ∃ w5, w4.alloc (.cells #[.slice none 0 0, .slice none 0 0, .int .i64 0] 56 (0, 0)) = w5 := ⟨_, rfl⟩
  have hb5 : Below w4.heap.size w4 w5 := by rw [← hw5]; exact below_alloc (Below.refl _ _) _
  have hK5 : w5.heap[w4.heap.size]? = some (.cells #[.slice none 0 0, .slice none 0 0, .int .i64 0] 56 (0, 0)) := by rw [← hw5]; exact heap_alloc_new _ _
  have hal := Aside0.mk (fun W => alive22_calls W)
  clear hcall hCM hCP hb4 hB3
  go_wp2_with ((with_reducible refine gate_store (t := 56) (p := 8) rfl ?_); go_loud (refine wpList_storeBox rfl rfl 56 (.tmp 8) (.tmp 22) rfl (.agg #[.slice M' r.1.length cm', .slice P' r.2.1.length cp', .int .i64 r.2.2]) [.slice M' r.1.length cm', .slice P' r.2.1.length cp', .int .i64 r.2.2] rfl rfl rfl (by kernel_rfl) (by simp [Value.oneCell']) hK5 rfl ?_); intro w6 hK6 hg6 hs6)
  have hb6 : Below w4.heap.size w4 w6 := hb5.grown hg6 hb5.size (fun k hk => by injection hk; omega)
  refine (hal.out _).mono ?_; rintro e_ w7 ⟨rfl, hb7⟩
  have hb47 := below_step hb6 hb7
  have hK7 := (hb7.block _ (blk_lt hK6)).trans hK6
  obtain ⟨x0, x1, x2⟩ := box3 hK7
  have hsame := Aside0.mk (same_calls M M' cm cm' r.1 w7 (Kd.C_below hCM4 hb47) hcm (Kd.C_below hCM' hb47) hcm' (by omega))
  have hB7 := below_step hB4 hb47
  replace hCP4 := Kd.C_below hCP4 hb47
  replace hCP' := Kd.C_below hCP' hb47
  clear hal hb5 hK5 hg6 hs6 hb6 hb7 hK6 hCM4 hCM' hb47 hB4
  go_wp2_with fail
  refine hsame.out.mono ?_; rintro e_ w8 ⟨rfl, hb8⟩
  have hK8 := (hb8.block _ (blk_lt hK7)).trans hK7
  have hnum := Aside0.mk (numbers_calls P P' cp cp' r.2.1 w8 (Kd.C_below hCP4 hb8) hcp (Kd.C_below hCP' hb8) hcp' (by omega))
  have hB8 := below_step hB7 hb8
  clear hsame x0 x1 x2 hK7 hCP4 hCP' hb8 hB7
  obtain ⟨x0, x1, x2⟩ := box3 hK8
  go_wp2_with fail
  refine hnum.out.mono ?_; rintro e_ w9 ⟨rfl, hb9⟩
  have hB9 := Aside0.mk (below_step hB8 hb9)
  clear hnum hb9 hB8
  go_wp2
  go_ret
  exact ⟨rfl, hB9.out⟩
end Go.Proofs.Ytenmmeehgnkcpaa.Q
