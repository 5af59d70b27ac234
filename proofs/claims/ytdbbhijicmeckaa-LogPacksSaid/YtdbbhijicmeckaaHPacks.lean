/- LogPacks answers true: any state and changes packed are as the document says, or refused; and are recovered.
   Conditions: none but the types. -/
import Derived.Test.YtdbbhijicmeckaaHPack
import Derived.Test.YtdbbhijicmeckaaHOpen
namespace Go.Proofs.Ytdbbhijicmeckaa.Q
open Go.RowKit Go.Proofs.YtdbbhijicmeckaaW.PrintWords Go.Proofs.YtdbbhijicmeckaaW.PrintLast Go.Proofs.YtdbbhijicmeckaaW.PrintMore
set_option linter.unusedVariables false
set_option linter.unusedSimpArgs false

theorem good_size {l : List ByteArray} (h : good22 l) : ∀ t ∈ l, t.size ≤ 140737488355328 := fun t ht => by
  have := h.2 t ht
  unfold reachBytes at this
  omega
/-- What log.Pack answers. -/
def packR (st : ByteArray) (l : List ByteArray) (r : ByteArray) (e : Int) : Prop :=
  log_Pack.f (3 + l.length + 1) st l = some (r, e) ∧ ((longB (packL st l) 1024 = true ∧ r = ⟨#[]⟩ ∧ e = 2) ∨
    (longB (packL st l) 1024 = false ∧ e = 0 ∧ demurralref09_Pack.f (10500 + l.length + 1) st l = some r ∧ r.size ≤ 100000 ∧ scanL r = packL st l))
theorem packR_ok (st : ByteArray) (l : List ByteArray) (hl : l.length ≤ 20) (h0 : st.size ≤ 140737488355328) (hs : ∀ t ∈ l, t.size ≤ 140737488355328) : ∃ r e, packR st l r e := by
  have hp := pack_f st l (by omega) h0 hs
  have hr := refpack_f st l (by omega) h0 hs
  have hpl0 : (packL st l).length ≤ 21 := by unfold packL; rw [List.length_cons, List.length_map]; omega
  have hpl : (packL st l).length ≤ 100 := by omega
  cases h : longB (packL st l) 1024 with
  | true => exact ⟨⟨#[]⟩, 2, by rw [hp 3, write_long _ hpl h 0]; rfl, .inl ⟨h, rfl, rfl⟩⟩
  | false =>
    have hle : ∀ t ∈ packL st l, t.size ≤ 1024 := by simpa [longB] using h
    have hsz := catL_len (packL st l) hle
    refine ⟨⟨(catL (packL st l)).toArray⟩, 0, by rw [hp 3, write_eq _ hpl h 0]; rfl, .inr ⟨h, rfl, by rw [hr 10500, ref_write _ hpl h 10500 (by omega)]; rfl, ?_, ?_⟩⟩
    · show (B (catL (packL st l))).size ≤ _
      rw [B_size]
      omega
    · exact (scan_cat _ (packL st l) [] hle (by rw [List.append_nil]; exact L_B _) parse_nil).1
set_option maxHeartbeats 4000000 in
set_option maxRecDepth 100000 in
theorem packs_walk (s : ByteArray) (A1 : Option Addr) (c1 : Nat) (l1 : List ByteArray) (w : World) (hr1 : Kd.C Kd.string w A1 l1.length l1) (hc1 : l1.length ≤ c1) (hs : s.size ≤ reachBytes) (g1 : good22 l1) :
    Calls Try.prog 5 #[.string s, .slice A1 l1.length c1] w fun e w' => e = .returned (.bool true) ∧ Below w.heap.size w w' := by
  have hs0 : s.size ≤ 140737488355328 := by unfold reachBytes at hs; omega
  have hg := good_size g1
  obtain ⟨x, hx⟩ : ∃ x, l1.take 8 = x := ⟨_, rfl⟩
  have hfew : Hid (∀ w, Calls Try.prog 8 #[.slice A1 l1.length c1] w fun e w' => e = .returned (.slice A1 x.length c1) ∧ w' = w) := Lib.hid fun w => by rw [← hx]; exact few_calls A1 c1 l1 w hc1
  have hx8 : x.length ≤ 8 := by rw [← hx, List.length_take]; omega
  have hx0 : x.length ≤ c1 := by rw [← hx, List.length_take]; omega
  have hC : Kd.C Kd.string w A1 x.length x := by
    rw [← hx]
    rcases Nat.le_total l1.length 8 with h | h
    · rw [List.take_of_length_le h]; exact hr1
    · exact Kd.C_take hr1 h
  have hgx : ∀ t ∈ x, t.size ≤ 140737488355328 := fun t ht => hg t (by rw [← hx] at ht; exact List.mem_of_mem_take ht)
  obtain ⟨r, e, hr, hrr⟩ := packR_ok s x (by omega) hs0 hgx
  have hlong : demurralref09_Long.f 100 x 1023 = some (longB x 1023) := long_eq x (by omega) 1023 100 (by omega)
  rw [pack_long] at hrr
  have hal := alive_eq
  have htx := texts_same x (by omega) 100 (by omega)
  clear hx g1 hr1 hg hgx hs
  generalize longB x 1023 = lb at hlong hrr
  replace hr := Lib.hid hr
  replace hrr := Lib.hid hrr
  replace hlong := Lib.hid hlong
  replace hal := Lib.hid hal
  replace htx := Lib.hid htx
  have HB := Aside0.mk (Below.refl w.heap.size w)
  replace hC := Aside0.mk hC
  go_enter Try.func5, Try.ntmps5
  go_wp2_with fail
  refine (hfew.out _).mono ?_; rintro e_ wq ⟨rfl, rfl⟩
  go_wp2_with fail
  refine (log_Pack.calls (3 + x.length + 1) s A1 c1 x r e _ hC.out hx0 hr.out).mono ?_; rintro e_ w2 ⟨rfl, hb⟩; replace hC := Aside0.mk (Kd.C_below hC.out hb); replace HB := Aside0.mk (below_step HB.out hb); clear hb
  rcases hrr.out with ⟨hl, rfl, rfl⟩ | ⟨hl, rfl, hpk, hrs, hsc⟩
  · clear hrr hr
    by_cases hst : 1023 < s.size
    · have hsb : decide (1023 < (s.size : Int)) = true := decide_eq_true (by omega)
      go_wp2_with fail
      refine (demurrallaw09_alive.calls true _ hal.out).mono ?_; rintro e_ w4 ⟨rfl, hb⟩; replace hC := Aside0.mk (Kd.C_below hC.out hb); replace HB := Aside0.mk (below_step HB.out hb); clear hb
      go_wp2
      go_ret
      exact ⟨rfl, HB.out⟩
    · have hsb : decide (1023 < (s.size : Int)) = false := decide_eq_false (by omega)
      have hlb : lb = true := by rw [decide_eq_false hst, Bool.false_or] at hl; exact hl
      subst hlb
      go_wp2_with fail
      refine (demurralref09_Long.calls 100 A1 c1 x 1023 true _ hC.out hx0 hlong.out).mono ?_; rintro e_ w3 ⟨rfl, hd⟩; have hb := hd.below; clear hd; replace hC := Aside0.mk (Kd.C_below hC.out hb); replace HB := Aside0.mk (below_step HB.out hb); clear hb
      go_wp2_with fail
      refine (demurrallaw09_alive.calls true _ hal.out).mono ?_; rintro e_ w4 ⟨rfl, hb⟩; replace hC := Aside0.mk (Kd.C_below hC.out hb); replace HB := Aside0.mk (below_step HB.out hb); clear hb
      go_wp2
      go_ret
      exact ⟨rfl, HB.out⟩
  · have hst : ¬ 1023 < s.size := fun h => by rw [decide_eq_true h, Bool.true_or] at hl; cases hl
    have hsb : decide (1023 < (s.size : Int)) = false := decide_eq_false (by omega)
    have hlb : lb = false := by rw [decide_eq_false hst, Bool.false_or] at hl; exact hl
    subst hlb
    have hrc : recOf (scanL r) = (s, x) := by rw [hsc]; exact rec_pack s x _
    have hcr : Hid (∀ W, Calls Try.prog 18 #[.string r] W fun e w' => ∃ A c, e = .returned (.tuple #[.string s, .slice A x.length c]) ∧ x.length ≤ c ∧ Kd.C Kd.string w' A x.length x ∧ Below W.heap.size W w') := Lib.hid fun W => by
      have := recover_calls r (by omega) W
      rw [hrc] at this
      exact this
    replace hpk := Lib.hid hpk
    clear hrr hr hsc hrc hrs hl
    go_wp2_with fail
    refine (demurralref09_Long.calls 100 A1 c1 x 1023 false _ hC.out hx0 hlong.out).mono ?_; rintro e_ w3 ⟨rfl, hd⟩; have hb := hd.below; clear hd; replace hC := Aside0.mk (Kd.C_below hC.out hb); replace HB := Aside0.mk (below_step HB.out hb); clear hb
    go_wp2_with fail
    refine (hcr.out _).mono ?_; rintro e_ w5 ⟨A2, c2, rfl, h2, hC2, hb⟩
    have C2 := Aside0.mk hC2; clear hC2; replace hC := Aside0.mk (Kd.C_below hC.out hb); replace HB := Aside0.mk (below_step HB.out hb); clear hb
    go_wp2_with fail
    refine (demurrallaw09_alive.calls true _ hal.out).mono ?_; rintro e_ w4 ⟨rfl, hb⟩; replace C2 := Aside0.mk (Kd.C_below C2.out hb); replace hC := Aside0.mk (Kd.C_below hC.out hb); replace HB := Aside0.mk (below_step HB.out hb); clear hb
    go_wp2_with fail
    refine (demurralref09_Pack.calls (10500 + x.length + 1) s A1 c1 x r _ hC.out hx0 hpk.out).mono ?_; rintro e_ w6 ⟨rfl, hb⟩; replace C2 := Aside0.mk (Kd.C_below C2.out hb); replace hC := Aside0.mk (Kd.C_below hC.out hb); replace HB := Aside0.mk (below_step HB.out hb); clear hb
    go_wp2_with fail
    refine (demurralref04_Texts.calls 100 A2 c2 x A1 c1 x true _ C2.out h2 hC.out hx0 htx.out).mono ?_; rintro e_ w7 ⟨rfl, hd⟩
    go_wp2
    go_ret
    exact ⟨rfl, below_step HB.out hd.below⟩
end Go.Proofs.Ytdbbhijicmeckaa.Q
