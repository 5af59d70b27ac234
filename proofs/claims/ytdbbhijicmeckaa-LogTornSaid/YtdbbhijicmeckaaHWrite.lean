/- log.Write answers the records of some texts, one behind the other; or it refuses.
   Conditions: the list is read as texts. -/
import Derived.Test.YtdbbhijicmeckaaHBuilder
import Derived.Test.YtdbbhijicmeckaaQx109
namespace Go.Proofs.Ytdbbhijicmeckaa.Q
open Go.RowKit Go.Proofs.YtdbbhijicmeckaaW.PrintWords Go.Proofs.YtdbbhijicmeckaaW.PrintLast Go.Proofs.YtdbbhijicmeckaaW.PrintMore
set_option linter.unusedVariables false
set_option linter.unusedSimpArgs false

/-- What is written of texts behind what was written. -/
def wrI (k : Nat) : List ByteArray → List UInt8 → Option (ByteArray × Int)
  | [], out => some (⟨out.toArray⟩, 0)
  | s :: l, out => (log_Record.f k s).bind fun p => if p.2 = 0 then (if out.length + p.1.size ≤ 140737488355328 then wrI k l (out ++ p.1.data.toList) else none) else some (⟨#[]⟩, p.2)
theorem wrI_mono (k : Nat) : ∀ (l : List ByteArray) (out : List UInt8), LeO (wrI k l out) (wrI (k + 1) l out)
  | [], out => LeO.refl _
  | s :: l, out => LeO.bind (log_Record.mono _ _) fun p => LeO.ite (LeO.ite (wrI_mono k l _) (LeO.refl _)) (LeO.refl _)
theorem wrI_drop (k : Nat) (l : List ByteArray) (out : List UInt8) (i : Int) (h0 : 0 ≤ i) (h1 : i < l.length) :
    wrI k (l.drop i.toNat) out = (log_Record.f k (rdOf ByteArray.empty l i)).bind fun p => if p.2 = 0 then (if out.length + p.1.size ≤ 140737488355328 then wrI k (l.drop (i + 1).toNat) (out ++ p.1.data.toList) else none) else some (⟨#[]⟩, p.2) := by
  obtain ⟨n, rfl⟩ := Int.eq_ofNat_of_zero_le h0
  have hn : n < l.length := by omega
  rw [show ((n : Int) + 1).toNat = n + 1 by omega, show ((n : Int)).toNat = n by omega, List.drop_eq_getElem_cons hn, wrI]
  simp [rdOf, hn]
def log_Write.f (k : Nat) (l0 : List ByteArray) : Option (ByteArray × Int) := if l0.length ≤ 9223372036854775807 then wrI k l0 [] else none
theorem log_Write.mono : ∀ a0 k, LeO (log_Write.f k a0) (log_Write.f (k + 1) a0) := fun a0 k => LeO.ite (wrI_mono k a0 []) (LeO.refl _)
theorem builder_below {B b : Nat} {bs : List Value} {w w' : World} (h : Lib.IsBuilder 55 5 B b bs w) (hb : Below w.heap.size w w') : Lib.IsBuilder 55 5 B b bs w' := by
  have key : ∀ p, Lib.BuilderAt 55 5 B b p bs w → Lib.BuilderAt 55 5 B b p bs w' := by
    rintro p ⟨hB, v, hbk, hown, hne⟩
    exact ⟨hB, v, (hb.block b (Array.getElem?_eq_some_iff.1 hbk).1).trans hbk, pw_own_below hown hb, hne⟩
  exact h.imp (key _) (key _)
set_option maxHeartbeats 2000000 in
set_option maxRecDepth 100000 in
theorem log_Write.calls (k : Nat) (A0 : Option Addr) (c0 : Nat) (l0 : List ByteArray) (r1 : ByteArray) (r2 : Int) (w : World) (hr0 : Kd.C Kd.string w A0 l0.length l0) (hc0 : l0.length ≤ c0) (h : log_Write.f k l0 = some (r1, r2)) :
    Calls Try.prog 10 #[.slice A0 l0.length c0] w fun e w' => e = .returned (.tuple #[.string r1, .int .i64 r2]) ∧ Below w.heap.size w w' := by
  unfold log_Write.f at h
  split at h
  case isFalse => cases h
  case isTrue hlen =>
    replace h := Lib.hid h
    go_enter Try.func10, Try.ntmps10
    go_wp2
    have hI : Lib.IsBuilder 55 5 w.heap.size w.heap.size (Lib.byteCells []) (w.alloc (.cells #[.pointer none, .slice none 0 0] 55)) :=
      .inl ⟨Nat.le_refl _, .slice none 0 0, heap_alloc_new w _, own_nil _ _ _ _, by simp [Value.ownBlock]⟩
    have hB : Below w.heap.size w (w.alloc (.cells #[.pointer none, .slice none 0 0] 55)) := below_alloc (Below.refl _ _) _
    go_loopw [11] (fun v wr => ∃ (i : Int) (out : List UInt8), 0 ≤ i ∧ i ≤ l0.length ∧ v = .int .i64 i ∧ Hid (wrI k (l0.drop i.toNat) out = some (r1, r2)) ∧ out.length ≤ 140737488355328 ∧ Lib.IsBuilder 55 5 w.heap.size w.heap.size (Lib.byteCells out) wr ∧ Below w.heap.size w wr) (fun v _ => l0.length - (intOf v).toNat)
    case atStart => exact ⟨0, [], by omega, by omega, rfl, h, by simp, hI, hB⟩
    case round =>
      clear hI hB h
      obtain ⟨i, out, hi0, hi1, rfl, h, ho, hI, hB⟩ := hrel
      by_cases hlt : i < l0.length
      · obtain ⟨ad, e, q0⟩ := Kd.at_string (Kd.C_below hr0 hB) i hi0 hlt
        subst e
        have H := h.out
        rw [wrI_drop k l0 out i hi0 hlt] at H
        obtain ⟨⟨t, e⟩, hR, H⟩ := Option.bind_eq_some_iff.1 H
        dsimp only at H
        generalize rdOf ByteArray.empty l0 i = s at q0 hR
        clear h
        replace hR := Lib.hid hR
        by_cases he : e = 0
        · subst he
          rw [if_pos rfl] at H
          split at H
          case isFalse => cases H
          case isTrue hfit =>
          replace H := Lib.hid H
          have hlb : (Lib.byteCells out).length + t.size ≤ 140737488355328 := by rw [Lib.byteCells_length]; exact hfit
          have hcat : Lib.byteCells (out ++ t.data.toList) = Lib.byteCells out ++ Lib.strCells t := by simp [Lib.byteCells, Lib.strCells]
          have hlo : (out ++ t.data.toList).length ≤ 140737488355328 := by rw [List.length_append, Array.length_toList]; exact hfit
          replace hfit := Lib.hid hlo
          replace hlb := Lib.hid hlb
          replace hcat := Lib.hid hcat
          go_wp2_with fail
          refine (log_Record.calls k s t 0 _ hR.out).mono ?_
          rintro e1 w1 ⟨rfl, hb1⟩
          have hI1 := builder_below hI hb1
          have hB1 := below_step hB hb1
          clear hI hB hb1 hlo q0
          go_wp2_with fail
          refine (writeString_any _ _ _ _ _ hI1 hlb.out hB1.size).mono ?_
          rintro e w2 ⟨rfl, hI2, hb2⟩
          rw [← hcat.out] at hI2
          have hI3 : Lib.IsBuilder 55 5 w.heap.size w.heap.size (Lib.byteCells (out ++ t.data.toList)) w2 := .inr hI2
          have hB2 : Below w.heap.size w w2 := hB1.trans hb2
          clear hI1 hI2 hb2 hB1
          go_wp2
          go_roundw
          case rel => exact ⟨i + 1, _, by omega, by omega, by go_num, H, hfit.out, hI3, hB2⟩
          case measure => simp [intOf]; omega
        · rw [if_neg he] at H
          injection H with H
          injection H with H1 H2
          subst H1; subst H2
          have he0 : (e == 0) = false := by simpa using he
          go_wp2_with fail
          refine (log_Record.calls k s t e _ hR.out).mono ?_
          rintro e1 w1 ⟨rfl, hb⟩
          go_wp2
          go_ret2
          exact ⟨rfl, below_step hB hb⟩
      · obtain rfl : i = l0.length := by omega
        have H := h.out
        rw [Int.toNat_natCast, List.drop_length, wrI] at H
        injection H with H
        injection H with H1 H2
        subst H1; subst H2
        go_wp2_with fail
        refine (Sh_Builder_String_any _ _ _ _ hI hB.size).mono ?_
        rintro e w1 ⟨rfl, hb1⟩
        go_wp2
        go_ret2
        exact ⟨rfl, hB.trans hb1⟩
end Go.Proofs.Ytdbbhijicmeckaa.Q
