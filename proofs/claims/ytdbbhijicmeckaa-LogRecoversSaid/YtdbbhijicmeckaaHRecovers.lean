/- LogRecovers answers true: a packed log with more changes behind it is recovered as the state, its changes, and theirs; a state behind it stands alone.
   Conditions: none but the types. -/
import Derived.Test.YtdbbhijicmeckaaHPack
import Derived.Test.YtdbbhijicmeckaaHConcat
import Derived.Test.YtdbbhijicmeckaaHOpen
namespace Go.Proofs.Ytdbbhijicmeckaa.Q
open Go.RowKit Go.Proofs.YtdbbhijicmeckaaW.PrintWords Go.Proofs.YtdbbhijicmeckaaW.PrintLast Go.Proofs.YtdbbhijicmeckaaW.PrintMore
set_option linter.unusedVariables false
set_option linter.unusedSimpArgs false

theorem good_size {l : List ByteArray} (h : good22 l) : ∀ t ∈ l, t.size ≤ 140737488355328 := fun t ht => by
  have := h.2 t ht
  unfold reachBytes at this
  omega
theorem cat_append (a b : List ByteArray) : B (catL a) ++ B (catL b) = B (catL (a ++ b)) := by
  rw [← B_append, catL, catL, catL, List.flatMap_append]
theorem recover_cat (l : List ByteArray) (h : ∀ t ∈ l, t.size ≤ 1024) : recOf (scanL (B (catL l))) = recOf l := by
  rw [(scan_cat (B (catL l)) l [] h (by rw [List.append_nil]; exact L_B _) parse_nil).1]
/-- What an answer of a call of Pack, Write or Record is. -/
def isCat (l : List ByteArray) (r : ByteArray) (e : Int) : Prop := (e = 2) ∨ (e = 0 ∧ r = B (catL l) ∧ ∀ t ∈ l, t.size ≤ 1024)
theorem write_cat (l : List ByteArray) (hl : l.length ≤ 100) : ∃ r e, log_Write.f 3 l = some (r, e) ∧ isCat l r e := by
  cases h : longB l 1024 with
  | true => exact ⟨_, _, write_long l hl h 0, .inl rfl⟩
  | false => exact ⟨_, _, write_eq l hl h 0, .inr ⟨rfl, rfl, by simpa [longB] using h⟩⟩
theorem pack_cat (st : ByteArray) (l : List ByteArray) (hl : l.length ≤ 20) (h0 : st.size ≤ 140737488355328) (hs : ∀ t ∈ l, t.size ≤ 140737488355328) : ∃ r e, log_Pack.f (3 + l.length + 1) st l = some (r, e) ∧ isCat (packL st l) r e := by
  obtain ⟨r, e, hw, hc⟩ := write_cat (packL st l) (by unfold packL; rw [List.length_cons, List.length_map]; omega)
  exact ⟨r, e, by rw [pack_f st l (by omega) h0 hs 3, hw]; rfl, hc⟩
theorem record_cat (s : ByteArray) : ∃ r e, log_Record.f 3 s = some (r, e) ∧ isCat [s] r e := by
  by_cases h : s.size ≤ 1024
  · exact ⟨_, _, record_eq s h 0, .inr ⟨rfl, by rw [catL, List.flatMap_cons, List.flatMap_nil, List.append_nil]; exact (B_L _).symm, fun t ht => by rw [List.mem_singleton.1 ht]; exact h⟩⟩
  · exact ⟨_, _, record_long s (by omega) 3, .inl rfl⟩
theorem isCat_size {l : List ByteArray} {r : ByteArray} (hl : l.length ≤ 100) (h : r = B (catL l) ∧ ∀ t ∈ l, t.size ≤ 1024) : r.size ≤ 104000 := by
  have := catL_len l h.2
  rw [h.1, B_size]
  omega
theorem recover_at (l : List ByteArray) (r : ByteArray) (st : ByteArray) (x : List ByteArray) (hl : l.length ≤ 100) (h : r = B (catL l) ∧ ∀ t ∈ l, t.size ≤ 1024) (hr : recOf l = (st, x)) (W : World) :
    Calls Try.prog 18 #[.string r] W fun e w' => ∃ A c, e = .returned (.tuple #[.string st, .slice A x.length c]) ∧ x.length ≤ c ∧ Kd.C Kd.string w' A x.length x ∧ Below W.heap.size W w' := by
  have hz := isCat_size hl h
  have := recover_calls r (by omega) W
  rw [h.1, recover_cat l h.2, hr] at this
  rw [h.1]
  exact this
theorem rec3 (st : ByteArray) (x y : List ByteArray) (fr : ByteArray) : recOf (packL st x ++ y.map cB) = (st, x ++ y) ∧ recOf ((packL st x ++ y.map cB) ++ [sB fr]) = (fr, []) ∧ recOf (((packL st x ++ y.map cB) ++ [sB fr]) ++ y.map cB) = (fr, y) := by
  have h1 : recOf (packL st x ++ y.map cB) = (st, x ++ y) := by
    unfold recOf
    rw [List.foldl_append, rec_pack, rec_changes]
  have h2 : recOf ((packL st x ++ y.map cB) ++ [sB fr]) = (fr, []) := by
    rw [recOf_snoc, h1, rec_sB]
  refine ⟨h1, h2, ?_⟩
  unfold recOf at h2 ⊢
  rw [List.foldl_append, h2, rec_changes]
  rfl
theorem cells_take (y : List ByteArray) (k : Nat) (hk : k < y.length) : ((y.take (k + 1)).map cB).map Value.string = ((y.take k).map cB).map Value.string ++ [Value.string (cB (rdOf ByteArray.empty y k))] := by
  rw [List.take_succ_eq_append_getElem hk, rd_nat y k hk, List.map_append, List.map_append]
  rfl
set_option maxHeartbeats 8000000 in
set_option maxRecDepth 100000 in
theorem recovers_walk (st : ByteArray) (A1 : Option Addr) (c1 : Nat) (l1 : List ByteArray) (A2 : Option Addr) (c2 : Nat) (l2 : List ByteArray) (fr : ByteArray) (w : World) (hr1 : Kd.C Kd.string w A1 l1.length l1) (hc1 : l1.length ≤ c1) (hr2 : Kd.C Kd.string w A2 l2.length l2) (hc2 : l2.length ≤ c2)
    (g0 : st.size ≤ reachBytes) (g1 : good22 l1) (g2 : good22 l2) (g3 : fr.size ≤ reachBytes) :
    Calls Try.prog 7 #[.string st, .slice A1 l1.length c1, .slice A2 l2.length c2, .string fr] w fun e w' => e = .returned (.bool true) ∧ Below w.heap.size w w' := by
  have hs0 : st.size ≤ 140737488355328 := by unfold reachBytes at g0; omega
  have hf0 : fr.size ≤ 140737488355328 := by unfold reachBytes at g3; omega
  have hg1 := good_size g1
  have hg2 := good_size g2
  obtain ⟨x, hx⟩ : ∃ x, l1.take 8 = x := ⟨_, rfl⟩
  obtain ⟨y, hy⟩ : ∃ y, l2.take 8 = y := ⟨_, rfl⟩
  have hfew1 : Hid (∀ w, Calls Try.prog 8 #[.slice A1 l1.length c1] w fun e w' => e = .returned (.slice A1 x.length c1) ∧ w' = w) := Lib.hid fun w => by rw [← hx]; exact few_calls A1 c1 l1 w hc1
  have hfew2 : Hid (∀ w, Calls Try.prog 8 #[.slice A2 l2.length c2] w fun e w' => e = .returned (.slice A2 y.length c2) ∧ w' = w) := Lib.hid fun w => by rw [← hy]; exact few_calls A2 c2 l2 w hc2
  have hx8 : x.length ≤ 8 := by rw [← hx, List.length_take]; omega
  have hx0 : x.length ≤ c1 := by rw [← hx, List.length_take]; omega
  have hy8 : y.length ≤ 8 := by rw [← hy, List.length_take]; omega
  have hy0 : y.length ≤ c2 := by rw [← hy, List.length_take]; omega
  have C1 : Aside0 (Kd.C Kd.string w A1 x.length x) := Aside0.mk (by
    rw [← hx]
    rcases Nat.le_total l1.length 8 with h | h
    · rw [List.take_of_length_le h]; exact hr1
    · exact Kd.C_take hr1 h)
  have C2 : Aside0 (Kd.C Kd.string w A2 y.length y) := Aside0.mk (by
    rw [← hy]
    rcases Nat.le_total l2.length 8 with h | h
    · rw [List.take_of_length_le h]; exact hr2
    · exact Kd.C_take hr2 h)
  have hgx : ∀ t ∈ x, t.size ≤ 140737488355328 := fun t ht => hg1 t (by rw [← hx] at ht; exact List.mem_of_mem_take ht)
  have hgy : Hid (∀ t ∈ y, t.size ≤ 140737488355328) := Lib.hid fun t ht => hg2 t (by rw [← hy] at ht; exact List.mem_of_mem_take ht)
  obtain ⟨s, e, hs, hsc⟩ := pack_cat st x (by omega) hs0 hgx
  obtain ⟨t, f, ht, htc⟩ := write_cat (y.map cB) (by rw [List.length_map]; omega)
  obtain ⟨u, g, hu, huc⟩ := record_cat (sB fr)
  have hal := Lib.hid alive_eq
  have hxy := Lib.hid (texts_same (x ++ y) (by rw [List.length_append]; omega) 100 (by rw [List.length_append]; omega))
  have hyy := Lib.hid (texts_same y (by omega) 100 (by omega))
  clear hx hy g0 g1 g2 g3 hg1 hg2 hr1 hr2 hgx
  replace hs := Lib.hid hs
  replace ht := Lib.hid ht
  replace hu := Lib.hid hu
  replace hsc := Lib.hid hsc
  replace htc := Lib.hid htc
  replace huc := Lib.hid huc
  have hfr1 : (1 + fr.size ≤ 9223372036854775807) = True := eq_true (by omega)
  have hfr2 : (9223372036854775807 < 1 + fr.size) = False := eq_false (by omega)
  have HB := Aside0.mk (Below.refl w.heap.size w)
  obtain ⟨i0, hi, hz0, hz1, hz2⟩ := info_parts info_str
  go_enter Try.func7, Try.ntmps7
  go_wp2_with fail
  refine (hfew1.out _).mono ?_; rintro e_ wq ⟨rfl, rfl⟩
  go_wp2_with fail
  refine (hfew2.out _).mono ?_; rintro e_ wq2 ⟨rfl, rfl⟩
  go_wp2_with fail
  refine (log_Pack.calls (3 + x.length + 1) st A1 c1 x s e _ C1.out hx0 hs.out).mono ?_; rintro e_ w2 ⟨rfl, hb⟩; replace C1 := Aside0.mk (Kd.C_below C1.out hb); replace C2 := Aside0.mk (Kd.C_below C2.out hb); replace HB := Aside0.mk (below_step HB.out hb); clear hb
  go_wp2
  go_loopw [11, 36] (fun q v wr => ∃ k : Nat, k ≤ y.length ∧ v = .int .i64 (k : Int) ∧ wr.ownsRow w2.heap.size 9 1 q k (((y.take k).map cB).map Value.string) ∧ Below w2.heap.size w2 wr) (fun _ v _ => y.length - (intOf v).toNat)
  case atStart => exact ⟨0, by omega, rfl, World.ownsRow_nil _ _ _ _, Below.refl _ _⟩
  case round =>
    obtain ⟨k, hk, rfl, hR, hBr⟩ := hrel
    by_cases hlt : (k : Int) < y.length
    · obtain ⟨ad, eA, q0⟩ := Kd.at_string (Kd.C_below C2.out hBr) (k : Int) (by omega) hlt
      subst eA
      have hct := cells_take y k (by omega)
      have hsz := hgy.out _ (show rdOf ByteArray.empty y (k : Int) ∈ y by rw [rd_nat y k (by omega)]; exact List.getElem_mem _)
      generalize rdOf ByteArray.empty y (k : Int) = z at q0 hct hsz
      rw [Int.toNat_natCast] at q0
      have hz1' : (1 + z.size ≤ 9223372036854775807) = True := eq_true (by omega)
      have hz2' : (9223372036854775807 < 1 + z.size) = False := eq_false (by omega)
      replace hct := Lib.hid hct
      go_wp2_with (at_builtin; go_loud (refine wpList_append_own _ rfl _ _ 22 rfl w2.heap.size 9 i0 (.string ⟨#[]⟩) 1 16 Try.underlying22 hi hz0 hz1 hz2 rfl (by decide) _ k _ rfl (hR.alloc _) ⟨wr.heap.size, 0, none⟩ 1 1 [.string (cB z)] rfl rfl (cell_one_new _ _ _) (by simp [Value.oneCell']) (by simp only [maxLen]; omega) (by omega) (by have := hBr.size; simp; omega) ?_); intro v' w3 hR2 hg2 _; rw [← hct.out] at hR2; have hB2 : Below w2.heap.size w2 w3 := pw_below_grown (below_alloc hBr _) _ (below_alloc hBr _).size hg2 (fun k hk => own_base hR k hk))
      go_roundw
      case rel => exact ⟨k + 1, by omega, by go_num, hR2, hB2⟩
      case measure => simp [intOf]; omega
    · obtain rfl : k = y.length := by omega
      rw [List.take_length] at hR
      have hR' : wr.ownsRow w2.heap.size 9 1 u11 (y.map cB).length ((y.map cB).map Value.string) := by rw [List.length_map]; exact hR
      obtain ⟨A3, c3, rfl, h3, hC3⟩ := row_of_own hR'
      have C3 := Aside0.mk hC3
      have hb := hBr
      replace C1 := Aside0.mk (Kd.C_below C1.out hb); replace C2 := Aside0.mk (Kd.C_below C2.out hb); replace HB := Aside0.mk (below_step HB.out hb); clear hb
      clear hR hR' hC3 hBr
      have hwc := log_Write.calls 3 A3 c3 (y.map cB) t f wr C3.out h3 ht.out
      rw [List.length_map] at hwc
      replace hwc := Aside0.mk hwc
      go_wp2_with fail
      refine hwc.out.mono ?_; rintro e_ w4 ⟨rfl, hb⟩; clear hwc C3; replace C1 := Aside0.mk (Kd.C_below C1.out hb); replace C2 := Aside0.mk (Kd.C_below C2.out hb); replace HB := Aside0.mk (below_step HB.out hb); clear hb
      go_wp2_with fail
      refine (log_Record.calls 3 (sB fr) u g _ hu.out).mono ?_; rintro e_ w5 ⟨rfl, hb⟩; replace C1 := Aside0.mk (Kd.C_below C1.out hb); replace C2 := Aside0.mk (Kd.C_below C2.out hb); replace HB := Aside0.mk (below_step HB.out hb); clear hb
      rcases hsc.out with rfl | ⟨rfl, hs2⟩
      · clear hsc htc huc
        go_wp2_with fail
        refine (demurrallaw09_alive.calls true _ hal.out).mono ?_; rintro e_ w6 ⟨rfl, hb⟩
        go_wp2
        go_ret
        exact ⟨rfl, below_step HB.out hb⟩
      rcases htc.out with rfl | ⟨rfl, ht2⟩
      · clear hsc htc huc
        go_wp2_with fail
        refine (demurrallaw09_alive.calls true _ hal.out).mono ?_; rintro e_ w6 ⟨rfl, hb⟩
        go_wp2
        go_ret
        exact ⟨rfl, below_step HB.out hb⟩
      rcases huc.out with rfl | ⟨rfl, hu2⟩
      · clear hsc htc huc
        go_wp2_with fail
        refine (demurrallaw09_alive.calls true _ hal.out).mono ?_; rintro e_ w6 ⟨rfl, hb⟩
        go_wp2
        go_ret
        exact ⟨rfl, below_step HB.out hb⟩
      clear hsc htc huc hs ht hu
      obtain ⟨r1, r2, r3⟩ := rec3 st x y fr
      have hpl : (packL st x).length ≤ 10 := by unfold packL; rw [List.length_cons, List.length_map]; omega
      have hyl : (y.map cB).length ≤ 8 := by rw [List.length_map]; omega
      have hal1 : ∀ q ∈ packL st x ++ y.map cB, q.size ≤ 1024 := fun q hq => (List.mem_append.1 hq).elim (hs2.2 q) (ht2.2 q)
      have hal2 : ∀ q ∈ (packL st x ++ y.map cB) ++ [sB fr], q.size ≤ 1024 := fun q hq => (List.mem_append.1 hq).elim (hal1 q) (hu2.2 q)
      have hal3 : ∀ q ∈ ((packL st x ++ y.map cB) ++ [sB fr]) ++ y.map cB, q.size ≤ 1024 := fun q hq => (List.mem_append.1 hq).elim (hal2 q) (ht2.2 q)
      have e1 : s ++ t = B (catL (packL st x ++ y.map cB)) := by rw [hs2.1, ht2.1, cat_append]
      have e2 : s ++ t ++ u = B (catL ((packL st x ++ y.map cB) ++ [sB fr])) := by rw [e1, hu2.1, cat_append]
      have e3 : s ++ t ++ u ++ t = B (catL (((packL st x ++ y.map cB) ++ [sB fr]) ++ y.map cB)) := by rw [e2, ht2.1, cat_append]
      have n1 : s.size ≤ 104000 := isCat_size (by omega) hs2
      have n2 : t.size ≤ 104000 := isCat_size (by omega) ht2
      have n3 : u.size ≤ 104000 := isCat_size (by simp) hu2
      have R1 := Lib.hid fun W => recover_at _ (s ++ t) st (x ++ y) (by rw [List.length_append]; omega) ⟨e1, hal1⟩ r1 W
      have R2 := Lib.hid fun W => recover_at _ (s ++ t ++ u) fr [] (by rw [List.length_append, List.length_append]; simp; omega) ⟨e2, hal2⟩ r2 W
      have R3 := Lib.hid fun W => recover_at _ (s ++ t ++ u ++ t) fr y (by rw [List.length_append, List.length_append, List.length_append]; simp; omega) ⟨e3, hal3⟩ r3 W
      have k1 : (s.size + t.size ≤ 9223372036854775807) = True := eq_true (by omega)
      have k1b : (9223372036854775807 < s.size + t.size) = False := eq_false (by omega)
      have k2 : (s.size + t.size + u.size ≤ 9223372036854775807) = True := eq_true (by omega)
      have k2b : (9223372036854775807 < s.size + t.size + u.size) = False := eq_false (by omega)
      have k3 : (s.size + t.size + u.size + t.size ≤ 9223372036854775807) = True := eq_true (by omega)
      have k3b : (9223372036854775807 < s.size + t.size + u.size + t.size) = False := eq_false (by omega)
      clear r1 r2 r3 hs2 ht2 hu2 hal1 hal2 hal3 e1 e2 e3 n1 n2 n3 hpl hyl
      go_wp2_with fail
      refine (R1.out _).mono ?_; rintro e_ w6 ⟨A4, c4, rfl, h4, hC4, hb⟩; have C4 := Aside0.mk hC4; clear hC4; replace C1 := Aside0.mk (Kd.C_below C1.out hb); replace C2 := Aside0.mk (Kd.C_below C2.out hb); replace HB := Aside0.mk (below_step HB.out hb); clear hb
      go_wp2_with fail
      refine (R2.out _).mono ?_; rintro e_ w7 ⟨A5, c5, rfl, h5, hC5, hb⟩; replace C4 := Aside0.mk (Kd.C_below C4.out hb); replace C1 := Aside0.mk (Kd.C_below C1.out hb); replace C2 := Aside0.mk (Kd.C_below C2.out hb); replace HB := Aside0.mk (below_step HB.out hb); clear hb
      go_wp2_with fail
      refine (R3.out _).mono ?_; rintro e_ w8 ⟨A6, c6, rfl, h6, hC6, hb⟩; have C6 := Aside0.mk hC6; clear hC6 hC5; replace C4 := Aside0.mk (Kd.C_below C4.out hb); replace C1 := Aside0.mk (Kd.C_below C1.out hb); replace C2 := Aside0.mk (Kd.C_below C2.out hb); replace HB := Aside0.mk (below_step HB.out hb); clear hb
      go_wp2_with fail
      refine (demurrallaw09_alive.calls true _ hal.out).mono ?_; rintro e_ w9 ⟨rfl, hb⟩; replace C4 := Aside0.mk (Kd.C_below C4.out hb); replace C6 := Aside0.mk (Kd.C_below C6.out hb); replace C1 := Aside0.mk (Kd.C_below C1.out hb); replace C2 := Aside0.mk (Kd.C_below C2.out hb); replace HB := Aside0.mk (below_step HB.out hb); clear hb
      clear R1 R2 R3 k1 k1b k2 k2b k3 k3b
      go_wp2_with fail
      obtain ⟨w10, hw10⟩ : ∃ w10, w9.alloc (Obj.cells #[Value.slice A1 x.length c1, Value.slice A2 y.length c2] 22) = w10 := ⟨_, rfl⟩
      have hK : w10.heap[w9.heap.size]? = some (.cells #[Value.slice A1 x.length c1, Value.slice A2 y.length c2] 22 (0, 0)) := by rw [← hw10]; exact heap_alloc_new _ _
      have hb : Below w9.heap.size w9 w10 := by rw [← hw10]; exact below_alloc (Below.refl _ _) _
      replace C1 := Aside0.mk (Kd.C_below C1.out hb); replace C2 := Aside0.mk (Kd.C_below C2.out hb); replace C4 := Aside0.mk (Kd.C_below C4.out hb); replace C6 := Aside0.mk (Kd.C_below C6.out hb); replace HB := Aside0.mk (below_step HB.out hb); clear hb
      rw [hw10]
      clear hw10
      refine (concat_calls w9.heap.size A1 c1 x A2 c2 y w10 hK C1.out C2.out (by omega) (by omega)).mono ?_; rintro e_ w11 ⟨A7, c7, rfl, h7, hC7, hb⟩
      replace C4 := Aside0.mk (Kd.C_below C4.out hb); replace C2 := Aside0.mk (Kd.C_below C2.out hb); replace C6 := Aside0.mk (Kd.C_below C6.out hb); replace HB := Aside0.mk (below_step HB.out hb); clear hb hK C1
      have htx := demurralref04_Texts.calls 100 A4 c4 (x ++ y) A7 c7 (x ++ y) true w11 C4.out h4 hC7 h7 hxy.out
      rw [List.length_append] at htx
      replace htx := Aside0.mk htx
      clear hC7
      go_wp2_with fail
      refine htx.out.mono ?_; rintro e_ w12 ⟨rfl, hd⟩; have hb := hd.below; clear hd htx
      replace C2 := Aside0.mk (Kd.C_below C2.out hb); replace C6 := Aside0.mk (Kd.C_below C6.out hb); replace HB := Aside0.mk (below_step HB.out hb); clear hb
      go_wp2_with fail
      refine (demurralref04_Texts.calls 100 A6 c6 y A2 c2 y true _ C6.out h6 C2.out hy0 hyy.out).mono ?_; rintro e_ w13 ⟨rfl, hd⟩
      go_wp2
      go_ret
      exact ⟨rfl, below_step HB.out hd.below⟩
end Go.Proofs.Ytdbbhijicmeckaa.Q
