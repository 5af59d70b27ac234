/- LogTorn answers true: a log is scanned as it was written; cut anywhere it is scanned as far as its records stand whole; records behind it come behind.
   Conditions: none but the types. -/
import Derived.Test.YtdbbhijicmeckaaHCat
import Derived.Test.YtdbbhijicmeckaaHConcat
import Derived.Test.YtdbbhijicmeckaaHOpen
import Derived.Laws.Strings3
namespace Go.Proofs.Ytdbbhijicmeckaa.Q
open Go.RowKit Go.Proofs.YtdbbhijicmeckaaW.PrintWords Go.Proofs.YtdbbhijicmeckaaW.PrintLast Go.Proofs.YtdbbhijicmeckaaW.PrintMore
set_option linter.unusedVariables false
set_option linter.unusedSimpArgs false

theorem catL_append (a b : List ByteArray) : catL (a ++ b) = catL a ++ catL b := by rw [catL, catL, catL, List.flatMap_append]
theorem catL_one (t : ByteArray) : catL [t] = L (recI t) := by rw [catL, List.flatMap_cons, List.flatMap_nil, List.append_nil]; rfl
theorem scan_of (l : List ByteArray) (h : ∀ t ∈ l, t.size ≤ 1024) (r : ByteArray) (hr : r = B (catL l)) (hl : l.length ≤ 100) (W : World) :
    Calls Try.prog 17 #[.string r] W fun e w' => ∃ A c, e = .returned (.tuple #[.slice A l.length c, .int .i64 (r.size : Int)]) ∧ l.length ≤ c ∧ Kd.C Kd.string w' A l.length l ∧ Below W.heap.size W w' := by
  have hz := catL_len l h
  have hs : r.size = (catL l).length := by rw [hr, B_size]
  obtain ⟨h1, h2⟩ := scan_cat r l [] h (by rw [List.append_nil, hr]; exact L_B _) parse_nil
  have := scan_calls r (by omega) W
  rw [h1, h2, ← hs] at this
  exact this
theorem cut_scan (x : List ByteArray) (h : ∀ t ∈ x, t.size ≤ 1024) (m K : Nat) (hm : m ≤ x.length) (h1 : (catL (x.take m)).length ≤ K) (h2 : m = x.length ∨ K < (catL (x.take (m + 1))).length) (hK : K ≤ (catL x).length) :
    scanL (B ((catL x).take K)) = x.take m ∧ scanE (B ((catL x).take K)) = ((catL (x.take m)).length : Int) := by
  have ht : ∀ t ∈ x.take m, t.size ≤ 1024 := fun t ht => h t (List.mem_of_mem_take ht)
  rcases h2 with rfl | h2
  · rw [List.take_length] at h1 ⊢
    rw [List.take_of_length_le (by omega)]
    exact scan_cat _ x [] h (by rw [List.append_nil]; exact L_B _) parse_nil
  · by_cases hmx : m = x.length
    · subst hmx
      rw [List.take_length] at h1 ⊢
      rw [List.take_of_length_le (by omega)]
      exact scan_cat _ x [] h (by rw [List.append_nil]; exact L_B _) parse_nil
    · have hlt : m < x.length := by omega
      have hx : x = x.take m ++ x[m] :: x.drop (m + 1) := by rw [← List.drop_eq_getElem_cons hlt, List.take_append_drop]
      have hc : catL x = catL (x.take m) ++ (recL (L x[m]) ++ catL (x.drop (m + 1))) := by
        have e : catL x = catL (x.take m ++ ([x[m]] ++ x.drop (m + 1))) := congrArg catL hx
        rw [e, catL_append, catL_append, catL_one, recL_L]
      have hc2 : (catL (x.take (m + 1))).length = (catL (x.take m)).length + (recL (L x[m])).length := by
        rw [List.take_succ_eq_append_getElem hlt, catL_append, catL_one, List.length_append, recL_L]
      have htk : (catL x).take K = catL (x.take m) ++ (recL (L x[m]) ++ catL (x.drop (m + 1))).take (K - (catL (x.take m)).length) := by
        rw [hc, List.take_append, List.take_of_length_le h1]
      rw [htk]
      exact scan_cat _ (x.take m) _ ht (L_B _) (parse_torn (L x[m]) _ (by rw [L_len]; exact h _ (List.getElem_mem hlt)) _ (by omega))
theorem write_two (l : List ByteArray) (hl : l.length ≤ 100) : ∃ r e, log_Write.f 3 l = some (r, e) ∧ ((e = 2 ∧ r = ⟨#[]⟩) ∨ (e = 0 ∧ r = B (catL l) ∧ ∀ t ∈ l, t.size ≤ 1024)) := by
  cases h : longB l 1024 with
  | true => exact ⟨_, _, write_long l hl h 0, .inl ⟨rfl, rfl⟩⟩
  | false => exact ⟨_, _, write_eq l hl h 0, .inr ⟨rfl, rfl, by simpa [longB] using h⟩⟩
theorem C_takei {W : World} {A : Option Addr} {x : List ByteArray} (hC : Kd.C Kd.string W A x.length x) {i : Nat} (hi : i ≤ x.length) : Kd.C Kd.string W A i (x.take i) := by
  have := Kd.C_take hC hi
  rwa [List.length_take, Nat.min_eq_left hi] at this
theorem torn_scan (x : List ByteArray) (s : ByteArray) (hx : x.length ≤ 100) (hc : s = B (catL x) ∧ ∀ t ∈ x, t.size ≤ 1024) (i K : Nat) (hi : i ≤ x.length) (hK : K ≤ s.size) (h1 : (catL (x.take i)).length ≤ K) (h2 : i = x.length ∨ K < (catL (x.take (i + 1))).length) (W : World) :
    Calls Try.prog 17 #[.string (s.extract 0 K)] W fun e w' => ∃ A c, e = .returned (.tuple #[.slice A i c, .int .i64 ((catL (x.take i)).length : Int)]) ∧ i ≤ c ∧ Kd.C Kd.string w' A i (x.take i) ∧ Below W.heap.size W w' := by
  have hz := catL_len x hc.2
  have hs : s.size = (catL x).length := by rw [hc.1, B_size]
  have hp : s.extract 0 K = B ((catL x).take K) := by
    apply L_inj
    rw [L_extract, hc.1, L_B, L_B, List.drop_zero, Nat.sub_zero]
  obtain ⟨e1, e2⟩ := cut_scan x hc.2 i K hi h1 h2 (by omega)
  have hti : (x.take i).length = i := by rw [List.length_take]; omega
  have := scan_calls (s.extract 0 K) (by rw [hp, B_size, List.length_take]; omega) W
  rw [hp] at this ⊢
  rw [e1, e2, hti] at this
  exact this
theorem texts_take (x : List ByteArray) (hx : x.length ≤ 100) (i : Nat) (hi : i ≤ x.length) (A0 : Option Addr) (c0 : Nat) (A1 : Option Addr) (c1 : Nat) (W : World) (h0 : i ≤ c0) (hC0 : Kd.C Kd.string W A0 i (x.take i)) (h1 : i ≤ c1) (hC1 : Kd.C Kd.string W A1 i (x.take i)) :
    Calls Try.prog 21 #[.slice A0 i c0, .slice A1 i c1] W fun e w' => e = .returned (.bool true) ∧ Drawn0 W w' := by
  have hti : (x.take i).length = i := by rw [List.length_take]; omega
  have := demurralref04_Texts.calls 1000 A0 c0 (x.take i) A1 c1 (x.take i) true W (by rw [hti]; exact hC0) (by omega) (by rw [hti]; exact hC1) (by omega) (texts_same _ (by omega) 1000 (by omega))
  rw [hti] at this
  exact this
theorem write_take (x : List ByteArray) (hx : x.length ≤ 100) (hc : ∀ t ∈ x, t.size ≤ 1024) (i : Nat) (hi : i ≤ x.length) (A1 : Option Addr) (c1 : Nat) (W : World) (h1 : i ≤ c1) (hC1 : Kd.C Kd.string W A1 i (x.take i)) :
    Calls Try.prog 10 #[.slice A1 i c1] W fun e w' => e = .returned (.tuple #[.string (B (catL (x.take i))), .int .i64 0]) ∧ Below W.heap.size W w' := by
  have hti : (x.take i).length = i := by rw [List.length_take]; omega
  have hl : longB (x.take i) 1024 = false := by
    have : ∀ t ∈ x.take i, t.size ≤ 1024 := fun t ht => hc t (List.mem_of_mem_take ht)
    simpa [longB] using this
  have := log_Write.calls 3 A1 c1 (x.take i) (B (catL (x.take i))) 0 W (by rw [hti]; exact hC1) (by omega) (write_eq _ (by omega) hl 0)
  rw [hti] at this
  exact this
set_option maxHeartbeats 8000000 in
set_option maxRecDepth 100000 in
theorem torn_walk (A1 : Option Addr) (c1 : Nat) (l1 : List ByteArray) (A2 : Option Addr) (c2 : Nat) (l2 : List ByteArray) (k0 : Int) (w : World) (hr1 : Kd.C Kd.string w A1 l1.length l1) (hc1 : l1.length ≤ c1) (hr2 : Kd.C Kd.string w A2 l2.length l2) (hc2 : l2.length ≤ c2)
    (g1 : good22 l1) (g2 : good22 l2) (g3 : (Lit.int .i64 k0).wf = true) :
    Calls Try.prog 6 #[.slice A1 l1.length c1, .slice A2 l2.length c2, .int .i64 k0] w fun e w' => e = .returned (.bool true) ∧ Below w.heap.size w w' := by
  obtain ⟨x, hx⟩ : ∃ x, l1.take 8 = x := ⟨_, rfl⟩
  obtain ⟨y, hy⟩ : ∃ y, l2.take 8 = y := ⟨_, rfl⟩
  have hfew1 : Hid (∀ w, Calls Try.prog 8 #[.slice A1 l1.length c1] w fun e w' => e = .returned (.slice A1 x.length c1) ∧ w' = w) := Lib.hid fun w => by rw [← hx]; exact few_calls A1 c1 l1 w hc1
  have hfew2 : Hid (∀ w, Calls Try.prog 8 #[.slice A2 l2.length c2] w fun e w' => e = .returned (.slice A2 y.length c2) ∧ w' = w) := Lib.hid fun w => by rw [← hy]; exact few_calls A2 c2 l2 w hc2
  have hx8 : x.length ≤ 8 := by rw [← hx, List.length_take]; omega
  have hx0 : x.length ≤ c1 := by rw [← hx, List.length_take]; omega
  have hy8 : y.length ≤ 8 := by rw [← hy, List.length_take]; omega
  have hy0 : y.length ≤ c2 := by rw [← hy, List.length_take]; omega
  have C1 : Aside0 (Kd.C Kd.string w A1 x.length x) := Aside0.mk (by
    rw [← hx]
    rcases Nat.le_total l1.length 8 with h | h
    · rw [List.take_of_length_le h]; exact hr1
    · exact Kd.C_take hr1 h)
  have C2 : Aside0 (Kd.C Kd.string w A2 y.length y) := Aside0.mk (by
    rw [← hy]
    rcases Nat.le_total l2.length 8 with h | h
    · rw [List.take_of_length_le h]; exact hr2
    · exact Kd.C_take hr2 h)
  obtain ⟨s, e, hs, hsc⟩ := write_two x (by omega)
  obtain ⟨t, f, ht, htc⟩ := write_two y (by omega)
  have hal := Lib.hid alive_eq
  have hxx := Lib.hid (texts_same x (by omega) 100 (by omega))
  have hxy := Lib.hid (texts_same (x ++ y) (by rw [List.length_append]; omega) 100 (by rw [List.length_append]; omega))
  clear hx hy g1 g2 hr1 hr2
  replace hs := Lib.hid hs
  replace ht := Lib.hid ht
  replace hsc := Lib.hid hsc
  replace htc := Lib.hid htc
  replace g3 := Lib.hid g3
  have HB := Aside0.mk (Below.refl w.heap.size w)
  go_enter Try.func6, Try.ntmps6
  go_wp2_with fail
  refine (hfew1.out _).mono ?_; rintro e_ wq ⟨rfl, rfl⟩
  go_wp2_with fail
  refine (hfew2.out _).mono ?_; rintro e_ wq2 ⟨rfl, rfl⟩
  go_wp2_with fail
  refine (log_Write.calls 3 A1 c1 x s e _ C1.out hx0 hs.out).mono ?_; rintro e_ w2 ⟨rfl, hb⟩; replace C1 := Aside0.mk (Kd.C_below C1.out hb); replace C2 := Aside0.mk (Kd.C_below C2.out hb); replace HB := Aside0.mk (below_step HB.out hb); clear hb
  go_wp2_with fail
  refine (log_Write.calls 3 A2 c2 y t f _ C2.out hy0 ht.out).mono ?_; rintro e_ w3 ⟨rfl, hb⟩; replace C1 := Aside0.mk (Kd.C_below C1.out hb); replace C2 := Aside0.mk (Kd.C_below C2.out hb); replace HB := Aside0.mk (below_step HB.out hb); clear hb
  rcases hsc.out with ⟨rfl, rfl⟩ | ⟨rfl, hs2⟩
  · clear hsc htc
    go_wp2_with fail
    refine (demurrallaw09_alive.calls true _ hal.out).mono ?_; rintro e_ w6 ⟨rfl, hb⟩
    go_wp2
    go_ret
    exact ⟨rfl, below_step HB.out hb⟩
  rcases htc.out with ⟨rfl, rfl⟩ | ⟨rfl, ht2⟩
  · clear hsc htc
    go_wp2_with fail
    refine (demurrallaw09_alive.calls true _ hal.out).mono ?_; rintro e_ w6 ⟨rfl, hb⟩
    go_wp2
    go_ret
    exact ⟨rfl, below_step HB.out hb⟩
  clear hsc htc
  have n1 : s.size ≤ 8320 := by have := catL_len x hs2.2; rw [hs2.1, B_size]; omega
  have n2 : t.size ≤ 8320 := by have := catL_len y ht2.2; rw [ht2.1, B_size]; omega
  have hxy2 : ∀ q ∈ x ++ y, q.size ≤ 1024 := fun q hq => (List.mem_append.1 hq).elim (hs2.2 q) (ht2.2 q)
  have S1 := Lib.hid fun W => scan_of x hs2.2 s hs2.1 (by omega) W
  have S2 := Lib.hid fun W => scan_of (x ++ y) hxy2 (s ++ t) (by rw [hs2.1, ht2.1, catL_append, B_append]) (by rw [List.length_append]; omega) W
  have k1 : (s.size + t.size ≤ 9223372036854775807) = True := eq_true (by omega)
  have k1b : (9223372036854775807 < s.size + t.size) = False := eq_false (by omega)
  have hcat := Lib.hid hs2
  clear hs2 ht2 hxy2 hs ht
  go_wp2_with fail
  refine (S1.out _).mono ?_; rintro e_ w4 ⟨A4, c4, rfl, h4, hC4, hb⟩; have C4 := Aside0.mk hC4; clear hC4; replace C1 := Aside0.mk (Kd.C_below C1.out hb); replace C2 := Aside0.mk (Kd.C_below C2.out hb); replace HB := Aside0.mk (below_step HB.out hb); clear hb
  go_wp2_with fail
  refine (S2.out _).mono ?_; rintro e_ w5 ⟨A5, c5, rfl, h5, hC5, hb⟩; have C5 := Aside0.mk hC5; clear hC5; replace C4 := Aside0.mk (Kd.C_below C4.out hb); replace C1 := Aside0.mk (Kd.C_below C1.out hb); replace C2 := Aside0.mk (Kd.C_below C2.out hb); replace HB := Aside0.mk (below_step HB.out hb); clear hb
  clear S1 S2 k1 k1b
  rw [ByteArray.size_append]
  go_wp2_with fail
  refine (demurralref04_Texts.calls 100 A4 c4 x A1 c1 x true _ C4.out h4 C1.out hx0 hxx.out).mono ?_; rintro e_ w6 ⟨rfl, hd⟩; have hb := hd.below; clear hd C4; replace C5 := Aside0.mk (Kd.C_below C5.out hb); replace C1 := Aside0.mk (Kd.C_below C1.out hb); replace C2 := Aside0.mk (Kd.C_below C2.out hb); replace HB := Aside0.mk (below_step HB.out hb); clear hb
  go_wp2_with fail
  obtain ⟨w7, hw7⟩ : ∃ w7, w6.alloc (Obj.cells #[Value.slice A1 x.length c1, Value.slice A2 y.length c2] 22) = w7 := ⟨_, rfl⟩
  have hK : w7.heap[w6.heap.size]? = some (.cells #[Value.slice A1 x.length c1, Value.slice A2 y.length c2] 22 (0, 0)) := by rw [← hw7]; exact heap_alloc_new _ _
  have hb : Below w6.heap.size w6 w7 := by rw [← hw7]; exact below_alloc (Below.refl _ _) _
  replace C5 := Aside0.mk (Kd.C_below C5.out hb); replace C1 := Aside0.mk (Kd.C_below C1.out hb); replace C2 := Aside0.mk (Kd.C_below C2.out hb); replace HB := Aside0.mk (below_step HB.out hb); clear hb
  rw [hw7]
  clear hw7
  refine (concat_calls w6.heap.size A1 c1 x A2 c2 y w7 hK C1.out C2.out (by omega) (by omega)).mono ?_; rintro e_ w8 ⟨A7, c7, rfl, h7, hC7, hb⟩
  replace C5 := Aside0.mk (Kd.C_below C5.out hb); replace C1 := Aside0.mk (Kd.C_below C1.out hb); replace C2 := Aside0.mk (Kd.C_below C2.out hb); replace HB := Aside0.mk (below_step HB.out hb); clear hb
  have htx := demurralref04_Texts.calls 100 A5 c5 (x ++ y) A7 c7 (x ++ y) true w8 C5.out h5 hC7 h7 hxy.out
  rw [List.length_append] at htx
  replace htx := Aside0.mk htx
  clear hC7 hK C5
  go_wp2_with fail
  refine htx.out.mono ?_; rintro e_ w9 ⟨rfl, hd⟩; have hb := hd.below; clear hd htx; replace C1 := Aside0.mk (Kd.C_below C1.out hb); replace C2 := Aside0.mk (Kd.C_below C2.out hb); replace HB := Aside0.mk (below_step HB.out hb); clear hb
  go_wp2_with fail
  refine (demurrallaw09_alive.calls true _ hal.out).mono ?_; rintro e_ w10 ⟨rfl, hb⟩; replace C1 := Aside0.mk (Kd.C_below C1.out hb); replace C2 := Aside0.mk (Kd.C_below C2.out hb); replace HB := Aside0.mk (below_step HB.out hb); clear hb
  obtain ⟨d, hd⟩ : ∃ d : Int, (s.size : Int) + 1 = d := ⟨_, rfl⟩
  have hd1 : 0 < d ∧ d ≤ 8321 := by omega
  obtain ⟨a, ha⟩ : ∃ a, Int.tmod k0 d = a := ⟨_, rfl⟩
  have ha1 : -d < a ∧ a < d := by
    have h1 := Int.tmod_lt_of_pos k0 hd1.1
    have h2 := Int.lt_tmod_of_pos k0 hd1.1
    omega
  obtain ⟨K, hKK⟩ : ∃ K, Int.tmod (a + (s.size : Int) + 1) d = K := ⟨_, rfl⟩
  have hK1 : 0 ≤ K ∧ K < d := by
    rw [← hKK]
    exact ⟨Int.tmod_nonneg _ (by omega), Int.tmod_lt_of_pos _ hd1.1⟩
  obtain ⟨K, rfl⟩ := Int.eq_ofNat_of_zero_le hK1.1
  have hKs : K ≤ s.size := by omega
  go_wp2
  clear ha hKK ha1 hK1 hd1 hd
  go_loopw [15, 16, 118] (fun p q v wr => ∃ i : Nat, i ≤ x.length ∧ p = .int .i64 (i : Int) ∧ q = .int .i64 ((catL (x.take i)).length : Int) ∧ v = .int .i64 (i : Int) ∧ (catL (x.take i)).length ≤ K ∧ Below w10.heap.size w10 wr) (fun _ _ v _ => x.length - (intOf v).toNat)
  case atStart => exact ⟨0, by omega, rfl, by simp [catL], rfl, by simp [catL], Below.refl _ _⟩
  case round =>
    obtain ⟨i, hi, rfl, rfl, rfl, h1, hbr⟩ := hrel
    have hb := hbr
    replace C1 := Aside0.mk (Kd.C_below C1.out hb); replace C2 := Aside0.mk (Kd.C_below C2.out hb); replace HB := Aside0.mk (below_step HB.out hb); clear hb
    by_cases hlt : (i : Int) < x.length
    · have hwt := Aside0.mk (write_take x (by omega) hcat.out.2 (i + 1) (by omega) A1 c1 wr (by omega) (C_takei C1.out (by omega)))
      have hic1 : i + 1 ≤ c1 := by omega
      have hic3 : (i : Int) + 1 ≤ (c1 : Int) := by omega
      have hcs : (B (catL (x.take (i + 1)))).size = (catL (x.take (i + 1))).length := B_size _
      generalize B (catL (x.take (i + 1))) = wi at hwt hcs
      by_cases hm : (catL (x.take (i + 1))).length ≤ K
      · have hmb : decide ((K : Int) < (wi.size : Int)) = false := decide_eq_false (by omega)
        have hmc : decide (K < wi.size) = false := decide_eq_false (by omega)
        have hmd : ¬ ((K : Int) < (wi.size : Int)) := by omega
        go_wp2_with fail
        refine hwt.out.mono ?_; rintro e_ w11 ⟨rfl, hb2⟩
        go_wp2
        go_roundw
        case rel => exact ⟨i + 1, by omega, by go_num, rfl, by go_num, hm, below_step hbr hb2⟩
        case measure => simp [intOf]; omega
      · have hmb : decide ((K : Int) < (wi.size : Int)) = true := decide_eq_true (by omega)
        have hmc : decide (K < wi.size) = true := decide_eq_true (by omega)
        have hmd : (K : Int) < (wi.size : Int) := by omega
        go_wp2_with fail
        refine hwt.out.mono ?_; rintro e_ w11 ⟨rfl, hb2⟩
        have hb := hb2
        replace C1 := Aside0.mk (Kd.C_below C1.out hb); replace C2 := Aside0.mk (Kd.C_below C2.out hb); replace HB := Aside0.mk (below_step HB.out hb); clear hb
        clear hmb hmc hmd hwt hic3
        have hts := torn_scan x s (by omega) hcat.out i K hi hKs h1 (.inr (by omega))
        have hsl : ∀ W, (Instr.slice 9 (.string s) none (some (.int .i64 (K : Int))) none).run Try.prog W = .ok (.string (s.extract 0 K)) W := fun W => by
          rw [run_slice_string_to_if W 9 s .i64 _ Try.underlying9, if_pos (by omega), Int.toNat_natCast]
        generalize s.extract 0 K = pp at hts hsl
        replace hts := Lib.hid hts
        have hic : i ≤ c1 := by omega
        have hic2 : (i : Int) ≤ (c1 : Int) := by omega
        generalize (catL (x.take i)).length = stop at hts h1 ⊢
        go_wp2_with fail
        refine (hts.out _).mono ?_; rintro e_ w12 ⟨A8, c8, rfl, h8, hC8, hb⟩
        replace C1 := Aside0.mk (Kd.C_below C1.out hb); replace C2 := Aside0.mk (Kd.C_below C2.out hb); replace HB := Aside0.mk (below_step HB.out hb); clear hb
        go_wp2_with fail
        refine (texts_take x (by omega) i hi A8 c8 A1 c1 _ h8 hC8 hic (C_takei C1.out hi)).mono ?_; rintro e_ w13 ⟨rfl, hd⟩
        go_wp2
        go_ret
        exact ⟨rfl, below_step HB.out hd.below⟩
    · obtain rfl : i = x.length := by omega
      have hts := torn_scan x s (by omega) hcat.out x.length K (Nat.le_refl _) hKs h1 (.inl rfl)
      have hsl : ∀ W, (Instr.slice 9 (.string s) none (some (.int .i64 (K : Int))) none).run Try.prog W = .ok (.string (s.extract 0 K)) W := fun W => by
        rw [run_slice_string_to_if W 9 s .i64 _ Try.underlying9, if_pos (by omega), Int.toNat_natCast]
      generalize s.extract 0 K = pp at hts hsl
      replace hts := Lib.hid hts
      have hic : x.length ≤ c1 := by omega
      have hic2 : (x.length : Int) ≤ (c1 : Int) := by omega
      generalize (catL (x.take x.length)).length = stop at hts h1 ⊢
      go_wp2_with fail
      refine (hts.out _).mono ?_; rintro e_ w12 ⟨A8, c8, rfl, h8, hC8, hb⟩
      replace C1 := Aside0.mk (Kd.C_below C1.out hb); replace C2 := Aside0.mk (Kd.C_below C2.out hb); replace HB := Aside0.mk (below_step HB.out hb); clear hb
      go_wp2_with fail
      refine (texts_take x (by omega) x.length (Nat.le_refl _) A8 c8 A1 c1 _ h8 hC8 hic (C_takei C1.out (Nat.le_refl _))).mono ?_; rintro e_ w13 ⟨rfl, hd⟩
      go_wp2
      go_ret
      exact ⟨rfl, below_step HB.out hd.below⟩
end Go.Proofs.Ytdbbhijicmeckaa.Q
