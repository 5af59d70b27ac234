/- LogWrites answers true: any text's crc and record, and any texts' log, are as the document says, or refused.
   Conditions: none but the types. -/
import Derived.Test.YtdbbhijicmeckaaHPure2
import Derived.Test.YtdbbhijicmeckaaHOpen
namespace Go.Proofs.Ytdbbhijicmeckaa.Q
open Go.RowKit Go.Proofs.YtdbbhijicmeckaaW.PrintWords Go.Proofs.YtdbbhijicmeckaaW.PrintLast Go.Proofs.YtdbbhijicmeckaaW.PrintMore
set_option linter.unusedVariables false
set_option linter.unusedSimpArgs false

/-- What log.Record answers. -/
def recR (s r : ByteArray) (e : Int) : Prop := (∀ k, 3 ≤ k → log_Record.f k s = some (r, e)) ∧ ((1024 < s.size ∧ r = ⟨#[]⟩ ∧ e = 2) ∨ (s.size ≤ 1024 ∧ e = 0 ∧ demurralref09_Record.f 10300 s = some r))
theorem recR_ok (s : ByteArray) : ∃ r e, recR s r e := by
  by_cases h : s.size ≤ 1024
  · exact ⟨recI s, 0, fun k hk => by obtain ⟨j, rfl⟩ : ∃ j, k = j + 3 := ⟨k - 3, by omega⟩; exact record_eq s h j, .inr ⟨h, rfl, ref_record s h 10300 (by omega)⟩⟩
  · exact ⟨⟨#[]⟩, 2, fun k hk => record_long s (by omega) k, .inl ⟨by omega, rfl, rfl⟩⟩
/-- What log.Write answers. -/
def writeR (l : List ByteArray) (r : ByteArray) (e : Int) : Prop := log_Write.f 3 l = some (r, e) ∧ ((longB l 1024 = true ∧ r = ⟨#[]⟩ ∧ e = 2) ∨ (longB l 1024 = false ∧ e = 0 ∧ demurralref09_Write.f 10500 l = some r))
theorem writeR_ok (l : List ByteArray) (hl : l.length ≤ 100) : ∃ r e, writeR l r e := by
  cases h : longB l 1024 with
  | true => exact ⟨⟨#[]⟩, 2, write_long l hl h 0, .inl ⟨h, rfl, rfl⟩⟩
  | false => exact ⟨⟨(catL l).toArray⟩, 0, write_eq l hl h 0, .inr ⟨h, rfl, ref_write l hl h 10500 (by omega)⟩⟩
theorem few_calls (A : Option Addr) (c : Nat) (l : List ByteArray) (w : World) (hc : l.length ≤ c) :
    Calls Try.prog 8 #[.slice A l.length c] w fun e w' => e = .returned (.slice A (l.take 8).length c) ∧ w' = w := by
  by_cases h : l.length ≤ 8
  · have e : (l.take 8).length = l.length := by rw [List.length_take]; omega
    have hlt : ¬ (8 : Int) < (l.length : Int) := by omega
    have hlt2 : (l.length : Int) ≤ 8 := by omega
    have em : (min (l.length : Int) 8).toNat = l.length := by omega
    rw [e]
    go_enter Try.func8, Try.ntmps8
    go_wp2
    go_ret
    exact ⟨rfl, rfl⟩
  · have e : (l.take 8).length = 8 := by rw [List.length_take]; omega
    have hlt : (8 : Int) < (l.length : Int) := by omega
    have hc40 : 8 ≤ c := by omega
    have em : (min (l.length : Int) 8).toNat = 8 := by omega
    rw [e]
    go_enter Try.func8, Try.ntmps8
    go_wp2
    go_ret
    exact ⟨rfl, rfl⟩
set_option maxHeartbeats 4000000 in
set_option maxRecDepth 100000 in
theorem writes_walk (s : ByteArray) (A1 : Option Addr) (c1 : Nat) (l1 : List ByteArray) (w : World) (hr1 : Kd.C Kd.string w A1 l1.length l1) (hc1 : l1.length ≤ c1) (hs : s.size ≤ reachBytes) (g1 : good22 l1) :
    Calls Try.prog 3 #[.string s, .slice A1 l1.length c1] w fun e w' => e = .returned (.bool true) ∧ Below w.heap.size w w' := by
  have hs0 : s.size ≤ 9223372036854775806 := by unfold reachBytes at hs; omega
  obtain ⟨x, hx⟩ : ∃ x, l1.take 8 = x := ⟨_, rfl⟩
  have hfew : Hid (∀ w, Calls Try.prog 8 #[.slice A1 l1.length c1] w fun e w' => e = .returned (.slice A1 x.length c1) ∧ w' = w) := Lib.hid fun w => by rw [← hx]; exact few_calls A1 c1 l1 w hc1
  have hx8 : x.length ≤ 8 := by rw [← hx, List.length_take]; omega
  have hx0 : x.length ≤ c1 := by rw [← hx, List.length_take]; omega
  have hC : Kd.C Kd.string w A1 x.length x := by
    rw [← hx]
    rcases Nat.le_total l1.length 8 with h | h
    · rw [List.take_of_length_le h]; exact hr1
    · exact Kd.C_take hr1 h
  obtain ⟨r, e, hr, hrr⟩ := recR_ok s
  obtain ⟨v, f, hv, hvv⟩ := writeR_ok x (by omega)
  have hlong : demurralref09_Long.f 100 x 1024 = some (longB x 1024) := long_eq x (by omega) 1024 100 (by omega)
  have hc := crc_eq s (by omega)
  have hcr := ref_crc s hs0 (10 * s.size + 1) (by omega)
  have hal := alive_eq
  clear hx g1 hs0 hr1
  generalize crcV s = cv at hc hcr
  generalize 10 * s.size + 1 = K at hcr
  generalize longB x 1024 = lb at hlong hvv
  replace hr := Lib.hid (hr 3 (Nat.le_refl _))
  replace hrr := Lib.hid hrr
  replace hv := Lib.hid hv
  replace hvv := Lib.hid hvv
  replace hlong := Lib.hid hlong
  replace hc := Lib.hid hc
  replace hcr := Lib.hid hcr
  replace hal := Lib.hid hal
  have HB := Aside0.mk (Below.refl w.heap.size w)
  replace hC := Aside0.mk hC
  go_enter Try.func3, Try.ntmps3
  go_wp2_with fail
  refine (hfew.out _).mono ?_; rintro e_ wq ⟨rfl, rfl⟩
  go_wp2_with fail
  refine (log_Record.calls 3 s r e _ hr.out).mono ?_; rintro e_ w1 ⟨rfl, hb⟩; replace hC := Aside0.mk (Kd.C_below hC.out hb); replace HB := Aside0.mk (below_step HB.out hb); clear hb
  go_wp2_with fail
  refine (log_Write.calls 3 A1 c1 x v f _ hC.out hx0 hv.out).mono ?_; rintro e_ w2 ⟨rfl, hb⟩; replace hC := Aside0.mk (Kd.C_below hC.out hb); replace HB := Aside0.mk (below_step HB.out hb); clear hb
  by_cases h2 : (s.size : Int) ≤ 2000
  · have h2b : decide ((s.size : Int) ≤ 2000) = true := decide_eq_true h2
    go_wp2_with fail
    refine (log_Crc.calls s cv _ hc.out).mono ?_; rintro e_ w3 ⟨rfl, hb⟩; replace hC := Aside0.mk (Kd.C_below hC.out hb); replace HB := Aside0.mk (below_step HB.out hb); clear hb
    go_wp2_with fail
    refine (demurralref09_Crc.calls K s cv _ hcr.out).mono ?_; rintro e_ w4 ⟨rfl, hd⟩; have hb := hd.below; clear hd; replace hC := Aside0.mk (Kd.C_below hC.out hb); replace HB := Aside0.mk (below_step HB.out hb); clear hb
    go_wp2_with fail
    refine (demurrallaw09_alive.calls true _ hal.out).mono ?_; rintro e_ w5 ⟨rfl, hb⟩; replace hC := Aside0.mk (Kd.C_below hC.out hb); replace HB := Aside0.mk (below_step HB.out hb); clear hb
    rcases hrr.out with ⟨hl, rfl, rfl⟩ | ⟨hl, rfl, hq⟩
    · have hlb : decide (1024 < (s.size : Int)) = true := decide_eq_true (by omega)
      go_wp2_with fail
      refine (demurralref09_Long.calls 100 A1 c1 x 1024 lb _ hC.out hx0 hlong.out).mono ?_; rintro e_ w7 ⟨rfl, hd⟩; have hb := hd.below; clear hd; replace hC := Aside0.mk (Kd.C_below hC.out hb); replace HB := Aside0.mk (below_step HB.out hb); clear hb
      rcases hvv.out with ⟨rfl, rfl, rfl⟩ | ⟨rfl, rfl, hz⟩
      · go_wp2
        go_ret
        exact ⟨rfl, HB.out⟩
      · go_wp2_with fail
        refine (demurralref09_Write.calls 10500 A1 c1 x v _ hC.out hx0 hz).mono ?_; rintro e_ w8 ⟨rfl, hb⟩; replace HB := Aside0.mk (below_step HB.out hb); clear hb
        go_wp2
        go_ret
        exact ⟨rfl, HB.out⟩
    · have hlb : decide (1024 < (s.size : Int)) = false := decide_eq_false (by omega)
      go_wp2_with fail
      refine (demurralref09_Record.calls 10300 s r _ hq).mono ?_; rintro e_ w6 ⟨rfl, hb⟩; replace hC := Aside0.mk (Kd.C_below hC.out hb); replace HB := Aside0.mk (below_step HB.out hb); clear hb
      go_wp2_with fail
      refine (demurralref09_Long.calls 100 A1 c1 x 1024 lb _ hC.out hx0 hlong.out).mono ?_; rintro e_ w7 ⟨rfl, hd⟩; have hb := hd.below; clear hd; replace hC := Aside0.mk (Kd.C_below hC.out hb); replace HB := Aside0.mk (below_step HB.out hb); clear hb
      rcases hvv.out with ⟨rfl, rfl, rfl⟩ | ⟨rfl, rfl, hz⟩
      · go_wp2
        go_ret
        exact ⟨rfl, HB.out⟩
      · go_wp2_with fail
        refine (demurralref09_Write.calls 10500 A1 c1 x v _ hC.out hx0 hz).mono ?_; rintro e_ w8 ⟨rfl, hb⟩; replace HB := Aside0.mk (below_step HB.out hb); clear hb
        go_wp2
        go_ret
        exact ⟨rfl, HB.out⟩
  · have h2b : decide ((s.size : Int) ≤ 2000) = false := decide_eq_false h2
    go_wp2_with fail
    refine (demurrallaw09_alive.calls true _ hal.out).mono ?_; rintro e_ w5 ⟨rfl, hb⟩; replace hC := Aside0.mk (Kd.C_below hC.out hb); replace HB := Aside0.mk (below_step HB.out hb); clear hb
    rcases hrr.out with ⟨hl, rfl, rfl⟩ | ⟨hl, rfl, hq⟩
    · have hlb : decide (1024 < (s.size : Int)) = true := decide_eq_true (by omega)
      go_wp2_with fail
      refine (demurralref09_Long.calls 100 A1 c1 x 1024 lb _ hC.out hx0 hlong.out).mono ?_; rintro e_ w7 ⟨rfl, hd⟩; have hb := hd.below; clear hd; replace hC := Aside0.mk (Kd.C_below hC.out hb); replace HB := Aside0.mk (below_step HB.out hb); clear hb
      rcases hvv.out with ⟨rfl, rfl, rfl⟩ | ⟨rfl, rfl, hz⟩
      · go_wp2
        go_ret
        exact ⟨rfl, HB.out⟩
      · go_wp2_with fail
        refine (demurralref09_Write.calls 10500 A1 c1 x v _ hC.out hx0 hz).mono ?_; rintro e_ w8 ⟨rfl, hb⟩; replace HB := Aside0.mk (below_step HB.out hb); clear hb
        go_wp2
        go_ret
        exact ⟨rfl, HB.out⟩
    · omega
end Go.Proofs.Ytdbbhijicmeckaa.Q
