/- What is packed, and what is recovered of it.
   Conditions: each text is at most 1023 bytes long. -/
import Derived.Test.YtdbbhijicmeckaaHCat
import Derived.Test.YtdbbhijicmeckaaQx122
import Derived.Test.YtdbbhijicmeckaaQx123
namespace Go.Proofs.Ytdbbhijicmeckaa.Q
open Go.RowKit Go.Proofs.YtdbbhijicmeckaaW.PrintWords Go.Proofs.YtdbbhijicmeckaaW.PrintLast Go.Proofs.YtdbbhijicmeckaaW.PrintMore
set_option linter.unusedVariables false
set_option linter.unusedSimpArgs false

def sB (s : ByteArray) : ByteArray := (⟨#[115]⟩ : ByteArray) ++ s
def cB (s : ByteArray) : ByteArray := (⟨#[99]⟩ : ByteArray) ++ s
theorem sB_size (s : ByteArray) : (sB s).size = 1 + s.size := by rw [sB, ByteArray.size_append]; rfl
theorem cB_size (s : ByteArray) : (cB s).size = 1 + s.size := by rw [cB, ByteArray.size_append]; rfl
def packL (state : ByteArray) (later : List ByteArray) : List ByteArray := sB state :: later.map cB
theorem pack_l0 (l : List ByteArray) (hl : l.length ≤ 100) (hs : ∀ t ∈ l, t.size ≤ 140737488355328) : ∀ (d i K : Nat) (acc : List ByteArray), i + d = l.length → acc.length ≤ 1000 + i →
    log_Pack.l0 (K + d + 1) acc l l.length i = (log_Write.f K (acc ++ (l.drop i).map cB)).bind fun p => some (p.1, p.2)
  | 0, i, K, acc, h, ha => by
    rw [Nat.add_zero, log_Pack.l0, if_neg (by omega), List.drop_of_length_le (by omega), List.map_nil, List.append_nil]
  | d + 1, i, K, acc, h, ha => by
    have h0 : i < l.length := by omega
    have hsz := hs l[i] (List.getElem_mem h0)
    have hw : Hid (wrap64 ((i : Int) + 1) = ((i + 1 : Nat) : Int)) := Lib.hid ((wrap_in ((i : Int) + 1) (by omega) (by omega)).trans (by omega))
    have ih := pack_l0 l hl hs d (i + 1) K (acc ++ [cB l[i]]) (by omega) (by rw [List.length_append]; simp; omega)
    rw [show K + (d + 1) + 1 = (K + d + 1) + 1 by omega, log_Pack.l0, if_pos (by omega), if_pos (by omega), if_pos (by omega), rd_nat l i h0, if_pos (by omega), if_pos (by omega), hw.out, List.drop_eq_getElem_cons h0, List.map_cons]
    show log_Pack.l0 (K + d + 1) (acc ++ [cB l[i]]) l l.length ((i + 1 : Nat) : Int) = _
    rw [ih, List.append_assoc]
    rfl
theorem pack_f (state : ByteArray) (later : List ByteArray) (hl : later.length ≤ 100) (h0 : state.size ≤ 140737488355328) (hs : ∀ t ∈ later, t.size ≤ 140737488355328) (K : Nat) :
    log_Pack.f (K + later.length + 1) state later = (log_Write.f K (packL state later)).bind fun p => some (p.1, p.2) := by
  unfold log_Pack.f
  rw [if_pos (by omega)]
  exact pack_l0 later hl hs later.length 0 K [sB state] (by omega) (by simp)
theorem refpack_l0 (l : List ByteArray) (hl : l.length ≤ 100) (hs : ∀ t ∈ l, t.size ≤ 140737488355328) : ∀ (d i K : Nat) (acc : List ByteArray), i + d = l.length → acc.length ≤ 1000 + i →
    demurralref09_Pack.l0 (K + d + 1) acc l l.length i = (demurralref09_Write.f K (acc ++ (l.drop i).map cB)).bind fun p => some p
  | 0, i, K, acc, h, ha => by
    rw [Nat.add_zero, demurralref09_Pack.l0, if_neg (by omega), List.drop_of_length_le (by omega), List.map_nil, List.append_nil]
  | d + 1, i, K, acc, h, ha => by
    have h0 : i < l.length := by omega
    have hsz := hs l[i] (List.getElem_mem h0)
    have hw : Hid (wrap64 ((i : Int) + 1) = ((i + 1 : Nat) : Int)) := Lib.hid ((wrap_in ((i : Int) + 1) (by omega) (by omega)).trans (by omega))
    have ih := refpack_l0 l hl hs d (i + 1) K (acc ++ [cB l[i]]) (by omega) (by rw [List.length_append]; simp; omega)
    rw [show K + (d + 1) + 1 = (K + d + 1) + 1 by omega, demurralref09_Pack.l0, if_pos (by omega), if_pos (by omega), if_pos (by omega), rd_nat l i h0, if_pos (by omega), if_pos (by omega), hw.out, List.drop_eq_getElem_cons h0, List.map_cons]
    show demurralref09_Pack.l0 (K + d + 1) (acc ++ [cB l[i]]) l l.length ((i + 1 : Nat) : Int) = _
    rw [ih, List.append_assoc]
    rfl
theorem refpack_f (state : ByteArray) (later : List ByteArray) (hl : later.length ≤ 100) (h0 : state.size ≤ 140737488355328) (hs : ∀ t ∈ later, t.size ≤ 140737488355328) (K : Nat) :
    demurralref09_Pack.f (K + later.length + 1) state later = (demurralref09_Write.f K (packL state later)).bind fun p => some p := by
  unfold demurralref09_Pack.f
  rw [if_pos (by omega)]
  exact refpack_l0 later hl hs later.length 0 K [sB state] (by omega) (by simp)
theorem bt_sB (s : ByteArray) : bt (sB s) 0 = 115 := by
  have := bt_L (sB s) 0
  rw [sB, L_append] at this
  exact this
theorem bt_cB (s : ByteArray) : bt (cB s) 0 = 99 := by
  have := bt_L (cB s) 0
  rw [cB, L_append] at this
  exact this
theorem tail_sB (s : ByteArray) : (sB s).extract 1 (sB s).size = s := by
  apply L_inj
  rw [L_tail', sB, L_append]
  rfl
theorem tail_cB (s : ByteArray) : (cB s).extract 1 (cB s).size = s := by
  apply L_inj
  rw [L_tail', cB, L_append]
  rfl
theorem rec_sB (st : ByteArray × List ByteArray) (s : ByteArray) : recStep st (sB s) = (s, []) := by
  have := sB_size s
  unfold recStep
  rw [if_neg (by omega), if_pos (bt_sB s), tail_sB]
theorem rec_cB (st : ByteArray × List ByteArray) (s : ByteArray) : recStep st (cB s) = (st.1, st.2 ++ [s]) := by
  have := cB_size s
  unfold recStep
  rw [if_neg (by omega), if_neg (by rw [bt_cB]; decide), if_pos (bt_cB s), tail_cB]
theorem rec_changes : ∀ (l : List ByteArray) (st : ByteArray × List ByteArray), (l.map cB).foldl recStep st = (st.1, st.2 ++ l)
  | [], st => by simp
  | t :: l, st => by rw [List.map_cons, List.foldl_cons, rec_cB, rec_changes l]; simp
theorem rec_pack (state : ByteArray) (later : List ByteArray) (st : ByteArray × List ByteArray) : (packL state later).foldl recStep st = (state, later) := by
  rw [packL, List.foldl_cons, rec_sB, rec_changes]
  rfl
theorem pack_long (state : ByteArray) (later : List ByteArray) : longB (packL state later) 1024 = (decide (1023 < state.size) || longB later 1023) := by
  have e : ∀ n : Nat, decide (1024 < 1 + n) = decide (1023 < n) := fun n => by
    by_cases h : 1023 < n
    · rw [decide_eq_true h, decide_eq_true (by omega)]
    · rw [decide_eq_false h, decide_eq_false (by omega)]
  unfold longB packL
  rw [List.any_cons, sB_size, e, List.any_map]
  congr 2
  funext t
  show decide (1024 < (cB t).size) = _
  rw [cB_size, e]
end Go.Proofs.Ytdbbhijicmeckaa.Q
