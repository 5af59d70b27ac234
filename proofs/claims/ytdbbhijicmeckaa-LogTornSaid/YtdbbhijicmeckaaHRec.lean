/- The records that stand at the beginning of bytes: the iterator hands them on in their order.
   Conditions: the body of the loop keeps what lay below the iterator's box. -/
import Derived.RangeFuncNested
import Derived.RangeFuncBound
import Derived.RangeFuncCalls
import Derived.RangeFuncLeaves
import Derived.RangeFuncBox
import Derived.Shelf.Abstract
import Derived.Shelf.RegionOpen
import Derived.WalkKit
import Derived.OwnWalkIn
import Derived.TacticsInMore
import Derived.LoopNIn
import Derived.LoopIn
import Derived.Maps.AppendAt
import Derived.Laws.Strings2
import Derived.Test.YtdbbhijicmeckaaHPure2
import Derived.Laws.Strings3
namespace Go.Proofs.Ytdbbhijicmeckaa.Q
open Go.RowKit Go.Shelf Go.Proofs.YtdbbhijicmeckaaW.PrintWords Go.Proofs.YtdbbhijicmeckaaW.PrintLast Go.Proofs.YtdbbhijicmeckaaW.PrintMore
attribute [local go_sem] Oper.semAt_some
set_option linter.unusedVariables false
set_option linter.unusedSimpArgs false

theorem below_grown {w w' : World} (h : Below w.heap.size w w') : w.grownBy w' none := ⟨h.os, h.tape, h.output, h.size, fun k hk _ => h.block k hk⟩
/-- What lay below stays, and one block. -/
def KeepsBox (Bn n₀ : Nat) (W W' : World) : Prop := Below n₀ W W' ∧ W'.heap[Bn]? = W.heap[Bn]?
/-- The number that some bytes tell, the highest first. -/
def foldI (t : ByteArray) : Nat → Int
  | 0 => 0
  | k + 1 => bits .or .i64 (wrap64 (foldI t k * 256)) (bt t k)
/-- The text whose record stands at a place, and where its record ends. -/
def oneI (s : ByteArray) (i : Nat) : Option (Nat × ByteArray) :=
  if i < s.size then
    if 1 + bt s i ≤ 3 ∧ i + (1 + bt s i) ≤ s.size then
      if foldI (s.extract (i + 1) (i + (1 + bt s i)).toNat) (bt s i).toNat ≤ 1024 ∧ i + (1 + bt s i) + foldI (s.extract (i + 1) (i + (1 + bt s i)).toNat) (bt s i).toNat + 4 ≤ s.size then
        if recI (s.extract (i + (1 + bt s i)).toNat (i + (1 + bt s i) + foldI (s.extract (i + 1) (i + (1 + bt s i)).toNat) (bt s i).toNat).toNat) = s.extract i (i + (1 + bt s i) + foldI (s.extract (i + 1) (i + (1 + bt s i)).toNat) (bt s i).toNat + 4).toNat then
          some ((i + (1 + bt s i) + foldI (s.extract (i + 1) (i + (1 + bt s i)).toNat) (bt s i).toNat + 4).toNat, s.extract (i + (1 + bt s i)).toNat (i + (1 + bt s i) + foldI (s.extract (i + 1) (i + (1 + bt s i)).toNat) (bt s i).toNat).toNat)
        else none
      else none
    else none
  else none
theorem or_i64 (a c : Nat) (ha : a < 256) (hc : c < 256) : bits .or .i64 ((a * 256 : Nat) : Int) c = ((a * 256 + c : Nat) : Int) := by
  have h := (bits_nat .i64 63 (by decide) (fun n p q => by rw [IntKind.wrap_i64]; omega) (a * 256) c (by omega) (by omega)).2
  rw [h, show a * 256 = 2 ^ 8 * a by omega, ← Nat.two_pow_add_eq_or_of_lt (by omega) a]
/-- Of two bytes at most. -/
theorem foldI_eq (t : ByteArray) (k : Nat) (hk : k ≤ 2) : foldI t k = if k = 0 then 0 else if k = 1 then bt t 0 else bt t 0 * 256 + bt t 1 := by
  have h0 := bt_range t 0
  have h1 := bt_range t 1
  obtain ⟨a, ha⟩ := Int.eq_ofNat_of_zero_le h0.1
  obtain ⟨c, hc⟩ := Int.eq_ofNat_of_zero_le h1.1
  have e1 : foldI t 1 = a := by
    show bits .or .i64 (wrap64 (0 * 256)) (bt t (0 : Nat)) = a
    rw [show ((0 : Nat) : Int) = 0 from rfl, ha]
    have := or_i64 0 a (by omega) (by omega)
    simpa [wrap64] using this
  have hk' : k = 0 ∨ k = 1 ∨ k = 2 := by omega
  rcases hk' with rfl | rfl | rfl
  · rfl
  · rw [e1, if_neg (by decide), if_pos rfl, ha]
  · rw [if_neg (by decide), if_neg (by decide), ha, hc]
    show bits .or .i64 (wrap64 (foldI t 1 * 256)) (bt t (1 : Nat)) = _
    rw [e1, show ((1 : Nat) : Int) = 1 from rfl, hc, wrap_in _ (by omega) (by omega)]
    have := or_i64 a c (by omega) (by omega)
    rw [show ((a : Int) * 256) = ((a * 256 : Nat) : Int) by omega, this]
    omega
theorem foldI_range (t : ByteArray) (k : Nat) (hk : k ≤ 2) : 0 ≤ foldI t k ∧ foldI t k ≤ 65535 := by
  have h0 := bt_range t 0
  have h1 := bt_range t 1
  rw [foldI_eq t k hk]
  split
  · omega
  · split <;> omega
theorem oneI_end {s : ByteArray} {i j : Nat} {t : ByteArray} (h : oneI s i = some (j, t)) : i < j ∧ j ≤ s.size := by
  unfold oneI at h
  split at h
  case isFalse => cases h
  split at h
  case isFalse => cases h
  rename_i hz
  have hb := bt_range s i
  have hf := foldI_range (s.extract (i + 1) (i + (1 + bt s i)).toNat) (bt s i).toNat (by omega)
  split at h
  case isFalse => cases h
  split at h
  case isFalse => cases h
  injection h with h
  injection h with h1 h2
  omega
/-- The records from a place on. -/
def recs (s : ByteArray) : Nat → Nat → List (Int × ByteArray)
  | 0, _ => []
  | f + 1, i => match oneI s i with
    | none => []
    | some (j, t) => ((j : Int), t) :: recs s f j
theorem recs_none (s : ByteArray) (f i : Nat) (h : oneI s i = none) : recs s f i = [] := by
  cases f with
  | zero => rfl
  | succ f => rw [recs, h]
theorem recs_some (s : ByteArray) (f i j : Nat) (t : ByteArray) (h : oneI s i = some (j, t)) : recs s (f + 1) i = ((j : Int), t) :: recs s f j := by rw [recs, h]
set_option maxRecDepth 100000 in
set_option maxHeartbeats 4000000 in
theorem records_in (l Bn n₀ : Nat) (s : ByteArray) (hs : s.size ≤ 140737488355328) (xs : List (Int × ByteArray)) (hxs : xs = recs s (s.size + 1) 0) (J Jx : List (Int × ByteArray) → World → Prop) (W : World) (hBn : W.cell? ⟨Bn, 0, none⟩ = some (.string s)) (hn₀ : Bn + 1 ≤ W.heap.size)
    (hJ : AbidesFrom W.heap.size J)
    (hY : ∀ pre x W, J pre W → pre.length < xs.length → YieldAt Fence.wide 1 Try.prog l #[.int .i64 x.1, .string x.2] W fun e W' =>
      (e = .returned (.bool true) ∧ J (pre ++ [x]) W' ∧ KeepsBox Bn n₀ W W') ∨ (e = .returned (.bool false) ∧ Jx (pre ++ [x]) W'))
    (h0 : J [] W) :
    CallsIn Fence.wide 2 Try.prog 36 #[.func (.yield l) #[] #[], .pointer (some ⟨Bn, 0, none⟩)] W fun e W' => (∃ v, e = .returned v) ∧
      ((∃ ys, ys = xs ∧ J ys W') ∨ (∃ pre, pre <+: xs ∧ Jx pre W')) := by
  have kb := fun cut W => print_bytes (P := Try.prog) 9 53 5 Try.underlying9 Try.underlying53 Try.underlying5 cut W
  replace hJ := Lib.hid hJ
  replace hxs := Lib.hid hxs
  refine callsIn_of_wp Try.func36 rfl trivial ?_ rfl
  simp only [Try.ntmps36, List.size_toArray, List.length_cons, List.length_nil, Nat.reduceAdd, Nat.reduceSub, Array.replicate_succ, Array.replicate_zero, List.push_toArray, List.append_toArray, List.nil_append, List.cons_append]
  gi_wp2
  gi_loopw [3] (fun v wr => ∃ (i f : Nat) (pre : List (Int × ByteArray)), v = .int .i64 (i : Int) ∧ i ≤ s.size ∧ s.size < f + i ∧ Hid (xs = pre ++ recs s f i) ∧ J pre wr ∧ wr.cell? ⟨Bn, 0, none⟩ = some (.string s) ∧ Bn + 1 ≤ wr.heap.size) (fun v _ => s.size - (intOf v).toNat)
  case atStart => exact ⟨0, s.size + 1, [], rfl, by omega, by omega, hxs, h0, hBn, hn₀⟩
  case round =>
    clear h0 hBn hxs
    obtain ⟨i, f, pre, rfl, hi, hf, hx, hJs, hc, hn⟩ := hrel
    by_cases hlt1 : (i : Int) < s.size
    · have hbr := bt_range s i
      have hbt : ∀ h : i < s.size, ((s[i]'h).toNat : Int) = bt s i := fun h => by have := bt_at s (i : Int) (by simpa using h); simpa using this
      obtain ⟨b, hb⟩ : ∃ b : Nat, bt s i = (b : Int) := ⟨(bt s i).toNat, by omega⟩
      have hend : Hid (oneI s i = none → xs = pre) := Lib.hid fun h => by have := hx.out; rw [recs_none s f i h, List.append_nil] at this; exact this
      rw [hb] at hbr hbt
      have hone := Lib.hid (show oneI s i = _ from by unfold oneI; rw [if_pos (by omega), hb, Int.toNat_natCast])
      by_cases hz : 1 + b ≤ 3
      · by_cases hz2 : (i : Int) + (1 + b) ≤ s.size
        · have hz3 : ¬ (3 < 1 + b ∨ (s.size : Int) < i + (1 + b)) := by omega
          have hcs : (s.extract (i + 1) ((i : Int) + (1 + (b : Int))).toNat).size = b := by rw [ByteArray.size_extract]; omega
          obtain ⟨cut, hcut⟩ : ∃ cut, s.extract (i + 1) ((i : Int) + (1 + (b : Int))).toNat = cut := ⟨_, rfl⟩
          have hsl : ∀ W, (Instr.slice 9 (.string s) (some (.int .i64 ((i : Int) + 1))) (some (.int .i64 ((i : Int) + (1 + b)))) none).run Try.prog W = .ok (.string cut) W := fun W => by
            rw [run_slice_string W 9 s .i64 .i64 _ _ Try.underlying9 (by omega) (by omega) (by omega), show ((i : Int) + 1).toNat = i + 1 by omega, hcut]
          rw [hcut] at hcs
          simp only [hcut] at hone
          have hfr := foldI_range cut b (by omega)
          have hX : Hid (∀ j, j < cut.size → (Lib.bytesWorld wr 5 cut).cell? ⟨wr.heap.size, j, none⟩ = some (.int .u8 (bt cut j))) := Lib.hid fun j hj => by
            rw [Lib.bytesWorld_cell wr 5 cut j hj]
            have h' : j < cut.data.toList.length := by rw [data_length]; exact hj
            unfold bt
            rw [dif_pos (by rw [Int.toNat_natCast]; exact hj)]
            simp [List.getD_eq_getElem?_getD, List.getElem?_eq_getElem h']
            rfl
          clear hcut
          gi_wp2
          clear hsl kb hbt
          have hbw : Below wr.heap.size wr (Lib.bytesWorld wr 5 cut) := bytes_below (Below.refl _ _) (Nat.le_refl _) 5 cut
          have hJ1 : J pre (Lib.bytesWorld wr 5 cut) := hJ.out _ _ _ none hJs (below_grown hbw) (fun r e => by cases e)
          have hc1 : (Lib.bytesWorld wr 5 cut).cell? ⟨Bn, 0, none⟩ = some (.string s) := (Below.cell (p := ⟨Bn, 0, none⟩) hbw (by show Bn < _; omega)).trans hc
          have hn1 : Bn + 1 ≤ (Lib.bytesWorld wr 5 cut).heap.size := Nat.le_trans hn hbw.size
          generalize grownCap wr b 0 5 = cc
          generalize Lib.bytesWorld wr 5 cut = w1 at hX hJ1 hc1 hn1 hbw ⊢
          gi_loopw [5, 40] (fun u v wx => ∃ k : Nat, k ≤ b ∧ v = .int .i64 (k : Int) ∧ u = .int .i64 (foldI cut k) ∧ wx = w1) (fun _ v _ => b - (intOf v).toNat)
          case atStart => exact ⟨0, by omega, rfl, rfl, rfl⟩
          case round =>
            obtain ⟨k, hk, rfl, rfl, rfl⟩ := hrel
            by_cases hkb : (k : Int) < b
            · have hq := hX.out k (by omega)
              have hbr2 := bt_range cut k
              have hfk : foldI cut (k + 1) = bits .or .i64 (wrap64 (foldI cut k * 256)) (bt cut k) := rfl
              generalize bt cut k = c at hq hbr2 hfk
              replace hfk := Lib.hid hfk
              generalize foldI cut k = x0 at hfk ⊢
              gi_wp2
              go_roundw
              case rel => exact ⟨k + 1, by omega, by go_num, by rw [hfk.out], trivial⟩
              case measure => simp [intOf]; omega
            · obtain rfl : k = b := by omega
              clear hX
              generalize foldI cut k = n at hfr hone ⊢
              obtain ⟨n, rfl⟩ := Int.eq_ofNat_of_zero_le hfr.1
              by_cases h4 : (n : Int) ≤ 1024
              · by_cases h5 : (i : Int) + (1 + k) + n + 4 ≤ s.size
                · have h45 : ¬ (1024 < (n : Int) ∨ (s.size : Int) < i + (1 + k) + n + 4) := by omega
                  have hts : (s.extract ((i : Int) + (1 + k)).toNat ((i : Int) + (1 + k) + n).toNat).size ≤ 1024 := by rw [ByteArray.size_extract]; omega
                  obtain ⟨tx, htx⟩ : ∃ tx, s.extract ((i : Int) + (1 + k)).toNat ((i : Int) + (1 + k) + n).toNat = tx := ⟨_, rfl⟩
                  obtain ⟨rr, hrr⟩ : ∃ rr, s.extract i ((i : Int) + (1 + k) + n + 4).toNat = rr := ⟨_, rfl⟩
                  have hsl2 : ∀ W, (Instr.slice 9 (.string s) (some (.int .i64 ((i : Int) + (1 + k)))) (some (.int .i64 ((i : Int) + (1 + k) + n))) none).run Try.prog W = .ok (.string tx) W := fun W => by
                    rw [run_slice_string W 9 s .i64 .i64 _ _ Try.underlying9 (by omega) (by omega) (by omega), htx]
                  have hsl3 : ∀ W, (Instr.slice 9 (.string s) (some (.int .i64 (i : Int))) (some (.int .i64 ((i : Int) + (1 + k) + n + 4))) none).run Try.prog W = .ok (.string rr) W := fun W => by
                    rw [run_slice_string W 9 s .i64 .i64 _ _ Try.underlying9 (by omega) (by omega) (by omega), Int.toNat_natCast, hrr]
                  rw [htx] at hts
                  have hre := Lib.hid (record_eq tx hts 0)
                  have hone2 := hone.out
                  rw [if_pos (by omega), if_pos (by omega), htx, hrr] at hone2
                  replace hone2 := Lib.hid hone2
                  clear hone htx hrr hts hfr
                  generalize recI tx = rt at hre hone2
                  gi_wp2
                  refine ⟨trivial, (callsIn_wide.2 (log_Record.calls 3 tx rt 0 _ hre.out)).mono ?_⟩
                  rintro e w2 ⟨rfl, hb2⟩
                  have hJ2 := hJ.out _ _ _ none hJ1 (below_grown hb2) (fun r e => by cases e)
                  have hc2 := (Below.cell (p := ⟨Bn, 0, none⟩) hb2 (by show Bn < _; omega)).trans hc1
                  have hn2 := Nat.le_trans hn1 hb2.size
                  clear hJ1 hc1 hn1 hb2 hre
                  by_cases heq : rt = rr
                  · rw [if_pos heq] at hone2
                    subst heq
                    obtain ⟨f, rfl⟩ : ∃ f', f = f' + 1 := ⟨f - 1, by omega⟩
                    have hx2 := hx.out
                    rw [recs_some s f i _ _ hone2.out] at hx2
                    have hen := oneI_end hone2.out
                    have ee : ((((i : Int) + (1 + k) + n + 4).toNat : Nat) : Int) = i + (1 + k) + n + 4 := by omega
                    rw [ee] at hx2
                    have hlen : pre.length < xs.length := by rw [hx2]; simp
                    have hpx : (pre ++ [((i : Int) + (1 + k) + n + 4, tx)]) <+: xs := by rw [hx2]; exact ⟨_, by rw [List.append_assoc]; rfl⟩
                    obtain ⟨fn, tmps, assign, body, hy, hR⟩ := hY pre ((i : Int) + (1 + k) + n + 4, tx) w2 hJ2 hlen
                    replace hx2 := Lib.hid (show xs = (pre ++ [((i : Int) + (1 + k) + n + 4, tx)]) ++ recs s f ((i : Int) + (1 + k) + n + 4).toNat by rw [hx2, List.append_assoc]; rfl)
                    replace hpx := Lib.hid hpx
                    clear hY hone2 hend hx hlen
                    dsimp only at hy
                    gi_wp2
                    refine hR.mono ?_
                    rintro e W3 (⟨rfl, hJ3, hk3⟩ | ⟨rfl, hJx3⟩)
                    · have hc3 := (World.cell?_of_block (a := ⟨Bn, 0, none⟩) hk3.2).trans hc2
                      have hn3 := Nat.le_trans hn2 hk3.1.size
                      gi_wp2
                      go_roundw
                      case rel => exact ⟨((i : Int) + (1 + k) + n + 4).toNat, f, pre ++ [((i : Int) + (1 + k) + n + 4, tx)], by rw [ee], hen.2, by omega, hx2, hJ3, hc3, hn3⟩
                      case measure => simp [intOf]; omega
                    · gi_wp2
                      refine bodyPost_ret (results_none rfl _ _ _) rfl ?_
                      exact ⟨⟨_, rfl⟩, .inr ⟨_, hpx.out, hJx3⟩⟩
                  · have hne : (rt.toList == rr.toList) = false := by
                      rw [ByteArray.toList_eq, ByteArray.toList_eq]
                      refine beq_eq_false_iff_ne.2 fun h => heq ?_
                      apply ByteArray.ext
                      exact Array.toList_inj.1 h
                    have hno : oneI s i = none := by rw [hone2.out, if_neg heq]
                    have he := Lib.hid (hend.out hno)
                    clear hone2 hend hx hno hY
                    gi_wp2
                    refine ⟨fun _ h => (by cases h), ?_⟩
                    gi_wp2
                    refine bodyPost_ret (results_none rfl _ _ _) rfl ?_
                    exact ⟨⟨_, rfl⟩, .inl ⟨_, he.out.symm, hJ2⟩⟩
                · have hno : oneI s i = none := by rw [hone.out, if_pos (by omega), if_neg (by omega)]
                  have he := Lib.hid (hend.out hno)
                  clear hone hend hx hno
                  gi_wp2
                  refine bodyPost_ret (results_none rfl _ _ _) rfl ?_
                  exact ⟨⟨_, rfl⟩, .inl (by rw [he.out]; exact hJ1)⟩
              · have hno : oneI s i = none := by rw [hone.out, if_pos (by omega), if_neg (by omega)]
                have he := Lib.hid (hend.out hno)
                clear hone hend hx hno
                gi_wp2
                refine bodyPost_ret (results_none rfl _ _ _) rfl ?_
                exact ⟨⟨_, rfl⟩, .inl (by rw [he.out]; exact hJ1)⟩
        · have hno : oneI s i = none := by rw [hone.out, if_neg (by omega)]
          have he := Lib.hid (hend.out hno)
          clear hone hend hx hno
          gi_wp2
          refine bodyPost_ret (results_none rfl _ _ _) rfl ?_
          exact ⟨⟨_, rfl⟩, .inl (by rw [he.out]; exact hJs)⟩
      · have hno : oneI s i = none := by rw [hone.out, if_neg (by omega)]
        have he := Lib.hid (hend.out hno)
        clear hone hend hx hno
        gi_wp2
        refine bodyPost_ret (results_none rfl _ _ _) rfl ?_
        exact ⟨⟨_, rfl⟩, .inl (by rw [he.out]; exact hJs)⟩
    · have hno : oneI s i = none := by unfold oneI; rw [if_neg (by omega)]
      have hx' := hx.out
      rw [recs_none s f i hno, List.append_nil] at hx'
      replace hx' := Lib.hid hx'
      clear hno hx
      gi_wp2
      go_end0
      exact ⟨⟨_, rfl⟩, .inl (by rw [hx'.out]; exact hJs)⟩
theorem records_stops (Bn n₀ : Nat) (s : ByteArray) (hs : s.size ≤ 140737488355328) (w : World) (hBn : Bn < w.heap.size) (hc : w.cell? ⟨Bn, 0, none⟩ = some (.string s)) :
    SeqStopsK Fence.wide 2 Try.prog 36 #[.pointer (some ⟨Bn, 0, none⟩)] (fun x : Int × ByteArray => #[Value.int .i64 x.1, Value.string x.2]) (KeepsBox Bn n₀) (fun ys => ys = recs s (s.size + 1) 0) (fun pre => pre <+: recs s (s.size + 1) 0) (recs s (s.size + 1) 0).length w :=
  fun l J Jx W hW hJ hJx hY h0 => records_in l Bn n₀ s hs _ rfl J Jx W ((hW.cell (p := ⟨Bn, 0, none⟩) hBn).trans hc) (Nat.le_trans hBn hW.size) hJ hY h0
set_option maxHeartbeats 1000000 in
theorem log_records_in (n : Nat) (s : ByteArray) (w : World) :
    CallsIn Fence.wide n Try.prog 30 #[.string s] w fun e w' => e = .returned (.func (.func 36) #[] #[.pointer (some ⟨w.heap.size, 0, none⟩)]) ∧ w' = w.alloc (.cells #[.string s] 9) := by
  refine callsIn_of_wp Try.func30 rfl trivial ?_ rfl
  simp only [Try.ntmps30, List.size_toArray, List.length_cons, List.length_nil, Nat.reduceAdd, Nat.reduceSub, Array.replicate_succ, Array.replicate_zero, List.push_toArray, List.append_toArray, List.nil_append, List.cons_append]
  gi_wp2
  go_ret
  exact ⟨rfl, rfl⟩
theorem keepsBox_t {Bn n₀ : Nat} {A B C : World} (h : KeepsBox Bn n₀ A B) (k : KeepsBox Bn n₀ B C) : KeepsBox Bn n₀ A C := ⟨h.1.trans k.1, k.2.trans h.2⟩
theorem keepsBox_b {Bn n₀ : Nat} {w : World} (hn : n₀ ≤ w.heap.size) (hB : Bn < w.heap.size) (W : World) (l : Nat) (o o' : Obj) (hl : w.heap.size ≤ l) (h : W.heap[l]? = some o) (h1 : o.isCells = false) (h2 : o.isWalk = false) : KeepsBox Bn n₀ W (W.putObj l o') :=
  ⟨belowK_b hn W l o o' hl h h1 h2, World.putObj_heap_other (by omega)⟩
end Go.Proofs.Ytdbbhijicmeckaa.Q
namespace Go.Proofs.Ytdbbhijicmeckaa.Q
open Go.RowKit Go.Shelf Go.Proofs.YtdbbhijicmeckaaW.PrintWords Go.Proofs.YtdbbhijicmeckaaW.PrintLast Go.Proofs.YtdbbhijicmeckaaW.PrintMore
attribute [local go_sem] Oper.semAt_some
set_option linter.unusedVariables false
set_option linter.unusedSimpArgs false

/-- Where the last of some records ends. -/
def lastEnd (l : List (Int × ByteArray)) : Int := l.foldl (fun _ x => x.1) 0
theorem lastEnd_snoc (l : List (Int × ByteArray)) (x : Int × ByteArray) : lastEnd (l ++ [x]) = x.1 := by simp [lastEnd]
def texts (l : List (Int × ByteArray)) : List ByteArray := l.map (·.2)
theorem texts_snoc (l : List (Int × ByteArray)) (x : Int × ByteArray) : texts (l ++ [x]) = texts l ++ [x.2] := by simp [texts]
theorem texts_len (l : List (Int × ByteArray)) : (texts l).length = l.length := by simp [texts]
theorem info_str : (Try.prog.info? 9).map (fun i => (i.zero, i.size, i.bytes)) = some (some (.string ⟨#[]⟩), 1, 16) := by kernel_rfl
theorem own_lower {W : World} {b b' : Nat} {e : TypeId} {size : Nat} {v : Value} {n : Nat} {xs : List Value} (h : W.ownsRow b e size v n xs) (hle : b' ≤ b) : W.ownsRow b' e size v n xs := by
  obtain ⟨h1, h2 | ⟨g, cap, cur, hv, hb, h3⟩⟩ := h
  · exact ⟨h1, .inl h2⟩
  · exact ⟨h1, .inr ⟨g, cap, cur, hv, by omega, h3⟩⟩
theorem own_far {W : World} {b : Nat} {e : TypeId} {size : Nat} {v : Value} {n : Nat} {xs : List Value} (h : W.ownsRow b e size v n xs) {k : Nat} (hk : k < b) : some k ≠ v.ownBlock := by
  rcases h.2 with ⟨rfl, _⟩ | ⟨g, cap, cur, rfl, hb, _⟩
  · simp [Value.ownBlock]
  · simp [Value.ownBlock]; omega
theorem recs_len (s : ByteArray) : ∀ f i, (recs s f i).length ≤ f
  | 0, _ => Nat.le_refl _
  | f + 1, i => by
    rw [recs]
    split
    · simp
    · rw [List.length_cons]
      have := recs_len s f ‹_›
      omega
theorem scan_step {W w1 : World} {a : Nat} {v v' : Value} {k m : Nat} {xs ys : List Value} {tmp : Obj} {u : Value} (u' : Value) (hv : Boxed W a 22 v) (hA : Boxed W (a + 1) 3 u) (hrow : W.ownsRow (a + 3) 9 1 v k xs) (hW : a + 3 ≤ W.heap.size)
    (hown' : w1.ownsRow (a + 3) 9 1 v' m ys) (hgrow : (W.alloc tmp).grownBy w1 v.ownBlock) :
    Boxed w1 a 22 v ∧ Boxed (w1.setCell ⟨a, 0, none⟩ v') (a + 1) 3 u ∧ Boxed ((w1.setCell ⟨a, 0, none⟩ v').setCell ⟨a + 1, 0, none⟩ u') a 22 v' ∧ Boxed ((w1.setCell ⟨a, 0, none⟩ v').setCell ⟨a + 1, 0, none⟩ u') (a + 1) 3 u' ∧
    ((w1.setCell ⟨a, 0, none⟩ v').setCell ⟨a + 1, 0, none⟩ u').ownsRow (a + 3) 9 1 v' m ys ∧ KeepsOthers W ((w1.setCell ⟨a, 0, none⟩ v').setCell ⟨a + 1, 0, none⟩ u') ∧ Below a W ((w1.setCell ⟨a, 0, none⟩ v').setCell ⟨a + 1, 0, none⟩ u') ∧
    ((w1.setCell ⟨a, 0, none⟩ v').setCell ⟨a + 1, 0, none⟩ u').heap[a + 2]? = W.heap[a + 2]? := by
  obtain ⟨hv1, hv2, _, hk2, hb2⟩ := hv.appended (by decide) (own_lower hrow (by omega)) (n₀ := a) (by omega) (Nat.le_refl _) (own_lower hown' (by omega)) hgrow
  have hA1 : Boxed w1 (a + 1) 3 u := (hA.alloc tmp).kept hgrow (hA.not_row (by decide) hrow)
  have hA2 := hA1.other (B' := a) (by omega) v'
  refine ⟨hv1, hA2, hv2.other (by omega) u', hA2.set u', (hown'.kept (grownBy_setCell' w1 a v') (.inr (own_far hown' (by omega)).symm)).kept (grownBy_setCell' _ (a + 1) u') (.inr (own_far hown' (by omega)).symm), hk2.trans (KeepsOthers.setCell _ _ _), hb2.setCell (p := ⟨a + 1, 0, none⟩) (by show a ≤ a + 1; omega) _, ?_⟩
  rw [Below.heap_setCell _ _ _ (a + 2) (by show a + 2 ≠ a + 1; omega), Below.heap_setCell _ _ _ (a + 2) (by show a + 2 ≠ a; omega), hgrow.block (a + 2) (by simp; omega) (own_far hrow (by omega)), Below.heap_alloc _ _ _ (by omega)]
set_option maxRecDepth 100000 in
set_option maxHeartbeats 4000000 in
theorem scan_in (s : ByteArray) (hs : s.size ≤ 8796093022200) (w : World) :
    CallsIn Fence.wide 3 Try.prog 17 #[.string s] w fun e W' => ∃ v, e = .returned (.tuple #[v, .int .i64 (lastEnd (recs s (s.size + 1) 0))]) ∧ W'.ownsRow w.heap.size 9 1 v (texts (recs s (s.size + 1) 0)).length ((texts (recs s (s.size + 1) 0)).map Value.string) ∧ Below w.heap.size w W' := by
  obtain ⟨i0, hi, hz0, hz1, hz2⟩ := info_parts info_str
  have hst := records_stops (w.heap.size + 2) w.heap.size s (by omega)
  have hlen := recs_len s (s.size + 1) 0
  generalize recs s (s.size + 1) 0 = xs at hst hlen ⊢
  refine callsIn_of_wp_marks Try.func17 rfl trivial ?_ rfl
  simp only [Try.ntmps17, List.size_toArray, List.length_cons, List.length_nil, Nat.reduceAdd, Nat.reduceSub, Array.replicate_succ, Array.replicate_zero, List.push_toArray, List.append_toArray, List.nil_append, List.cons_append]
  gi_wp2
  refine ⟨trivial, (log_records_in _ _ _).mono ?_⟩
  rintro e w' ⟨rfl, rfl⟩
  obtain ⟨w0, hw0⟩ : ∃ w0, ((w.alloc (Obj.cells #[Value.slice none 0 0] 22)).alloc (Obj.cells #[Value.int IntKind.i64 0] 3)).alloc (Obj.cells #[Value.string s] 9) = w0 := ⟨_, rfl⟩
  have hsz : w0.heap.size = w.heap.size + 3 := by rw [← hw0]; simp
  have bO : Boxed w0 w.heap.size 22 (.slice none 0 0) := by rw [← hw0]; exact ((Boxed.new w 22 (.slice none 0 0)).alloc _).alloc _
  have bA : Boxed w0 (w.heap.size + 1) 3 (.int .i64 0) := by
    have := Boxed.new (w.alloc (Obj.cells #[Value.slice none 0 0] 22)) 3 (.int .i64 0)
    rw [World.size_alloc] at this
    rw [← hw0]; exact this.alloc _
  have bS : Boxed w0 (w.heap.size + 2) 9 (.string s) := by
    have := Boxed.new ((w.alloc (Obj.cells #[Value.slice none 0 0] 22)).alloc (Obj.cells #[Value.int IntKind.i64 0] 3)) 9 (.string s)
    rw [World.size_alloc, World.size_alloc] at this
    rw [← hw0]; exact this
  have hB0 : Below w.heap.size w w0 := by rw [← hw0]; exact below_alloc (below_alloc (below_alloc (Below.refl _ _) _) _) _
  have hst' := hst w0 (by omega) bS.cell
  clear hst
  simp only [World.size_alloc]
  rw [hw0]
  clear hw0
  gi_wp2
  refine wpIn_rangeFunc_ownF rfl (by omega) (gf := 36) (lb := #[.pointer (some ⟨w.heap.size + 2, 0, none⟩)]) rfl trivial (enters_of Try.func36 (by kernel_rfl) rfl)
    hst' keepsBox_t (keepsBox_b (by omega) (by omega)) (Below.refl _ _) (fun _ => rfl)
    (fun pre W => (∃ v, Boxed W w.heap.size 22 v ∧ W.ownsRow (w.heap.size + 3) 9 1 v (texts pre).length ((texts pre).map Value.string) ∧ True) ∧ Boxed W (w.heap.size + 1) 3 (.int .i64 (lastEnd pre)) ∧ Below w.heap.size w0 W)
    (fun _ _ _ => False)
    (OwnFrom.and (Own.from (holdsRow_own (w.heap.size + 3) w.heap.size 22 9 1 (fun pre => (texts pre).length) (fun pre => (texts pre).map Value.string) (fun _ _ => True)) _) (OwnFrom.and (Own.from (boxed_own (w.heap.size + 1) 3 fun pre => .int .i64 (lastEnd pre)) _) (ownFrom_below (w₀ := w0) (by omega) (by omega))))
    (fun _ _ _ _ _ hs _ _ => hs)
    ⟨⟨_, bO, World.ownsRow_nil _ _ _ _, trivial⟩, bA, Below.refl _ _⟩
    (fun x => { tmps := #[.string s, undef, .slice none 0 0, .int .i64 0, .pointer (some ⟨w.heap.size, 0, none⟩), .pointer (some ⟨w.heap.size + 1, 0, none⟩), .int .i64 x.1, .string x.2, .string s, .func (.func 36) #[] #[.pointer (some ⟨w.heap.size + 2, 0, none⟩)], .int .i64 x.1, .string x.2, undef, undef, undef, undef, undef, undef, undef], defers := [] }) ?assign ?body ?done ?stop
  case assign =>
    intro l x W K hK
    gi_wp2
    exact hK
  case body =>
    rintro l pre x W ⟨⟨v, hv, hrow, _⟩, hA, hB⟩ hlt
    have hc := hv.cell
    have hW : w.heap.size + 3 ≤ W.heap.size := by have := hB.size; omega
    gi_wp2_with (gi_at_builtin; refine wpListIn_append_own _ rfl _ _ 22 rfl (w.heap.size + 3) 9 i0 (.string ⟨#[]⟩) 1 16 Try.underlying22 hi hz0 hz1 hz2 rfl (by decide) _ _ _ rfl (hrow.alloc _) ⟨W.heap.size, 0, none⟩ 1 1 [.string x.2] rfl rfl (cell_one_new _ _ _) (by simp [Value.oneCell']) (by have := texts_len pre; simp only [maxLen]; omega) (by have := texts_len pre; omega) (by simp; omega) ?_; intro v' w1 hown' hgrow _; obtain ⟨g', cap', rfl⟩ := ownsRow_succ hown'; obtain ⟨hv1, hA1, hv2, hA2, hr2, hk2, hb2, hs2⟩ := scan_step (.int .i64 x.1) hv hA hrow hW hown' hgrow; have hc1 := hv1.cell; have hf1 := hv1.frozen; have hc2 := hA1.cell; have hf2 := hA1.frozen)
    refine ⟨hk2, ⟨hb2, hs2⟩, ⟨_, hv2, by rw [texts_snoc]; simpa using hr2, trivial⟩, by rw [lastEnd_snoc]; exact hA2, hB.trans hb2⟩
  case done =>
    rintro D ys W hD rfl ⟨⟨v, hv, hrow, _⟩, hA, hB⟩ hK
    have hc := hv.cell
    have hc2 := hA.cell
    gi_wp2
    gi_quiet (fail)
    obtain ⟨W2, hW2⟩ : ∃ W2, W.drewN nq = W2 := ⟨_, rfl⟩
    have hh : W2.heap = W.heap := by rw [← hW2]; rfl
    have hd : Below w.heap.size w W2 := by rw [← hW2]; exact pw_below_drewN (hB0.trans hB) nq
    have hK2 : W2.heap[D]? = some (.deferred (some [])) := by rw [hh]; exact hK
    have hrow2 : W2.ownsRow (w.heap.size + 3) 9 1 v (texts ys).length ((texts ys).map Value.string) := by unfold World.ownsRow at hrow ⊢; rw [hh]; exact hrow
    rw [hW2]
    gi_wp2
    refine ⟨by simp, .inl ⟨_, _, rfl, run_takeDeferred hK2, ?_⟩⟩
    exact ⟨_, results_tmp2 rfl _ _ _, v, rfl, own_lower (ownsRow_putObj hrow2 _ hK2 rfl) (by omega), hd.trans (belowK_b (w := w) (Nat.le_refl _) W2 D _ _ (by omega) hK2 rfl rfl)⟩
  case stop =>
    rintro D c pre W _ _ h _
    exact h.elim
end Go.Proofs.Ytdbbhijicmeckaa.Q
namespace Go.Proofs.Ytdbbhijicmeckaa.Q
open Go.RowKit Go.Shelf Go.Proofs.YtdbbhijicmeckaaW.PrintWords Go.Proofs.YtdbbhijicmeckaaW.PrintLast Go.Proofs.YtdbbhijicmeckaaW.PrintMore
attribute [local go_sem] Oper.semAt_some
set_option linter.unusedVariables false
set_option linter.unusedSimpArgs false

/-- A text more: a state, a change, or neither. -/
def recStep (st : ByteArray × List ByteArray) (t : ByteArray) : ByteArray × List ByteArray :=
  if t.size = 0 then st else if bt t 0 = 115 then (t.extract 1 t.size, []) else if bt t 0 = 99 then (st.1, st.2 ++ [t.extract 1 t.size]) else st
def recOf (l : List ByteArray) : ByteArray × List ByteArray := l.foldl recStep (⟨#[]⟩, [])
theorem recOf_snoc (l : List ByteArray) (t : ByteArray) : recOf (l ++ [t]) = recStep (recOf l) t := by simp [recOf]
theorem recOf_len (l : List ByteArray) : ∀ st : ByteArray × List ByteArray, (l.foldl recStep st).2.length ≤ st.2.length + l.length := by
  induction l with
  | nil => intro st; simp
  | cons t l ih =>
    intro st
    have := ih (recStep st t)
    have h2 : (recStep st t).2.length ≤ st.2.length + 1 := by
      unfold recStep
      split
      · omega
      · split
        · simp
        · split
          · simp
          · omega
    rw [List.foldl_cons, List.length_cons]
    omega
theorem rec_step {W w1 : World} {a : Nat} {v v' : Value} {k m : Nat} {xs ys : List Value} {tmp : Obj} {u : Value} (hv : Boxed W (a + 1) 22 v) (hS : Boxed W a 9 u) (hrow : W.ownsRow (a + 3) 9 1 v k xs) (hW : a + 3 ≤ W.heap.size)
    (hown' : w1.ownsRow (a + 3) 9 1 v' m ys) (hgrow : (W.alloc tmp).grownBy w1 v.ownBlock) :
    Boxed w1 (a + 1) 22 v ∧ Boxed (w1.setCell ⟨a + 1, 0, none⟩ v') (a + 1) 22 v' ∧ Boxed (w1.setCell ⟨a + 1, 0, none⟩ v') a 9 u ∧
    (w1.setCell ⟨a + 1, 0, none⟩ v').ownsRow (a + 3) 9 1 v' m ys ∧ KeepsOthers W (w1.setCell ⟨a + 1, 0, none⟩ v') ∧ Below a W (w1.setCell ⟨a + 1, 0, none⟩ v') ∧
    (w1.setCell ⟨a + 1, 0, none⟩ v').heap[a + 2]? = W.heap[a + 2]? := by
  obtain ⟨hv1, hv2, hr2, hk2, hb2⟩ := hv.appended (by decide) (own_lower hrow (by omega)) (n₀ := a) (by omega) (by omega) (own_lower hown' (by omega)) hgrow
  have hS1 : Boxed w1 a 9 u := (hS.alloc tmp).kept hgrow (own_far hrow (by omega))
  refine ⟨hv1, hv2, hS1.other (by omega) v', hown'.kept (grownBy_setCell' w1 (a + 1) v') (.inr (own_far hown' (by omega)).symm), hk2, hb2, ?_⟩
  rw [Below.heap_setCell _ _ _ (a + 2) (by show a + 2 ≠ a + 1; omega), hgrow.block (a + 2) (by simp; omega) (own_far hrow (by omega)), Below.heap_alloc _ _ _ (by omega)]
theorem wpIn_scope_wide {n : Nat} {P : Program} {c : Code} {Q : Exit → Act → World → Prop} {a : Act} {w : World} (h : c.wpIn Fence.wide n P (Exit.noGoto Q) a w) : (Code.scope c).wpIn Fence.wide n P Q a w :=
  wpIn_wide.2 (wp_scope_straight (wpIn_wide.1 h))
set_option maxRecDepth 100000 in
set_option maxHeartbeats 4000000 in
theorem recover_in (s : ByteArray) (hs : s.size ≤ 8796093022200) (w : World) :
    CallsIn Fence.wide 3 Try.prog 18 #[.string s] w fun e W' => ∃ v, e = .returned (.tuple #[.string (recOf (texts (recs s (s.size + 1) 0))).1, v]) ∧ W'.ownsRow w.heap.size 9 1 v (recOf (texts (recs s (s.size + 1) 0))).2.length ((recOf (texts (recs s (s.size + 1) 0))).2.map Value.string) ∧ Below w.heap.size w W' := by
  obtain ⟨i0, hi, hz0, hz1, hz2⟩ := info_parts info_str
  have hst := records_stops (w.heap.size + 2) w.heap.size s (by omega)
  have hlen := recs_len s (s.size + 1) 0
  generalize recs s (s.size + 1) 0 = xs at hst hlen ⊢
  refine callsIn_of_wp_marks Try.func18 rfl trivial ?_ rfl
  simp only [Try.ntmps18, List.size_toArray, List.length_cons, List.length_nil, Nat.reduceAdd, Nat.reduceSub, Array.replicate_succ, Array.replicate_zero, List.push_toArray, List.append_toArray, List.nil_append, List.cons_append]
  gi_wp2
  refine wpIn_scope_wide ?_
  gi_wp2
  refine wpIn_label ?_
  gi_wp2
  refine ⟨trivial, (log_records_in _ _ _).mono ?_⟩
  rintro e w' ⟨rfl, rfl⟩
  obtain ⟨w0, hw0⟩ : ∃ w0, ((w.alloc (Obj.cells #[Value.string ⟨#[]⟩] 9)).alloc (Obj.cells #[Value.slice none 0 0] 22)).alloc (Obj.cells #[Value.string s] 9) = w0 := ⟨_, rfl⟩
  have hsz : w0.heap.size = w.heap.size + 3 := by rw [← hw0]; simp
  have bO : Boxed w0 w.heap.size 9 (.string ⟨#[]⟩) := by rw [← hw0]; exact ((Boxed.new w 9 (.string ⟨#[]⟩)).alloc _).alloc _
  have bA : Boxed w0 (w.heap.size + 1) 22 (.slice none 0 0) := by
    have := Boxed.new (w.alloc (Obj.cells #[Value.string ⟨#[]⟩] 9)) 22 (.slice none 0 0)
    rw [World.size_alloc] at this
    rw [← hw0]; exact this.alloc _
  have bS : Boxed w0 (w.heap.size + 2) 9 (.string s) := by
    have := Boxed.new ((w.alloc (Obj.cells #[Value.string ⟨#[]⟩] 9)).alloc (Obj.cells #[Value.slice none 0 0] 22)) 9 (.string s)
    rw [World.size_alloc, World.size_alloc] at this
    rw [← hw0]; exact this
  have hB0 : Below w.heap.size w w0 := by rw [← hw0]; exact below_alloc (below_alloc (below_alloc (Below.refl _ _) _) _) _
  have hst' := hst w0 (by omega) bS.cell
  clear hst
  simp only [World.size_alloc]
  rw [hw0]
  clear hw0
  gi_wp2
  refine wpIn_rangeFunc_ownF rfl (by omega) (gf := 36) (lb := #[.pointer (some ⟨w.heap.size + 2, 0, none⟩)]) rfl trivial (enters_of Try.func36 (by kernel_rfl) rfl)
    hst' keepsBox_t (keepsBox_b (by omega) (by omega)) (Below.refl _ _) (fun _ => rfl)
    (fun pre W => (∃ v, Boxed W (w.heap.size + 1) 22 v ∧ W.ownsRow (w.heap.size + 3) 9 1 v (recOf (texts pre)).2.length ((recOf (texts pre)).2.map Value.string) ∧ True) ∧ Boxed W w.heap.size 9 (.string (recOf (texts pre)).1) ∧ Below w.heap.size w0 W)
    (fun _ _ _ => False)
    (OwnFrom.and (Own.from (holdsRow_own (w.heap.size + 3) (w.heap.size + 1) 22 9 1 (fun pre => (recOf (texts pre)).2.length) (fun pre => (recOf (texts pre)).2.map Value.string) (fun _ _ => True)) _) (OwnFrom.and (Own.from (boxed_own w.heap.size 9 fun pre => .string (recOf (texts pre)).1) _) (ownFrom_below (w₀ := w0) (by omega) (by omega))))
    (fun _ _ _ _ _ hs _ _ => hs)
    ⟨⟨_, bA, World.ownsRow_nil _ _ _ _, trivial⟩, bO, Below.refl _ _⟩
    (fun x => { tmps := #[.string s, undef, .string ⟨#[]⟩, .slice none 0 0, .pointer (some ⟨w.heap.size, 0, none⟩), .pointer (some ⟨w.heap.size + 1, 0, none⟩), undef, .string x.2, .string s, .func (.func 36) #[] #[.pointer (some ⟨w.heap.size + 2, 0, none⟩)], .int .i64 x.1, .string x.2, undef, undef, undef, undef, undef, undef, undef, undef, undef, undef, undef, undef, undef, undef, undef, undef, undef, undef, undef, undef], defers := [] }) ?assign ?body ?done ?stop
  case assign =>
    intro l x W K hK
    gi_wp2
    exact hK
  case body =>
    rintro l pre x W ⟨⟨v, hv, hrow, _⟩, hS, hB⟩ hlt
    have hc := hv.cell
    have hW : w.heap.size + 3 ≤ W.heap.size := by have := hB.size; omega
    have hrl : (recOf (texts pre)).2.length ≤ s.size + 1 := by
      have h1 := recOf_len (texts pre) (⟨#[]⟩, [])
      have h2 := texts_len pre
      simp only [List.length_nil] at h1
      unfold recOf
      omega
    obtain ⟨y, t⟩ := x
    have HR : recOf (texts (pre ++ [(y, t)])) = recStep (recOf (texts pre)) t := by rw [texts_snoc, recOf_snoc]
    generalize recOf (texts pre) = st at hrow hS hrl HR
    obtain ⟨st1, st2⟩ := st
    dsimp only at hrow hS hrl
    by_cases ht0 : t.size = 0
    · obtain rfl : t = ⟨#[]⟩ := by
        apply ByteArray.ext
        exact Array.eq_empty_of_size_eq_zero ht0
      replace HR := Lib.hid (HR.trans (show recStep (st1, st2) ⟨#[]⟩ = (st1, st2) from rfl))
      gi_wp2
      exact ⟨KeepsOthers.refl _, ⟨Below.refl _ _, rfl⟩, ⟨v, hv, by rw [HR.out]; exact hrow, trivial⟩, by rw [HR.out]; exact hS, hB⟩
    · have hte : (t.toList == ([] : List UInt8)) = false := by
        rw [ByteArray.toList_eq]
        refine beq_eq_false_iff_ne.2 fun h => ht0 ?_
        have := congrArg List.length h
        rw [Array.length_toList] at this
        exact this
      have hsl : ∀ W, (Instr.slice 9 (.string t) (some (.int .i64 1)) none none).run Try.prog W = .ok (.string (t.extract 1 t.size)) W := fun W => by
        rw [run_slice_string_from_if W 9 t .i64 1 Try.underlying9, if_pos (by omega)]
        rfl
      have hst : recStep (st1, st2) t = if bt t 0 = 115 then (t.extract 1 t.size, []) else if bt t 0 = 99 then (st1, st2 ++ [t.extract 1 t.size]) else (st1, st2) := if_neg ht0
      have hbt : ∀ h : 0 < t.size, ((t[0]'h).toNat : Int) = bt t 0 := fun h => bt_at t 0 h
      generalize bt t 0 = b at hbt hst
      generalize t.extract 1 t.size = cutx at hsl hst
      by_cases h1 : b = 115
      · have h1b : (b == 115) = true := by rw [h1]; rfl
        rw [hst, if_pos h1] at HR
        replace HR := Lib.hid HR
        clear hst h1
        have hcS := hS.cell
        have hfS := hS.frozen
        have hv1 := hv.other (B' := w.heap.size) (by omega) (.string cutx)
        have hcV := hv1.cell
        have hfV := hv1.frozen
        gi_wp2
        refine ⟨(KeepsOthers.setCell _ _ _).trans (KeepsOthers.setCell _ _ _), ⟨((Below.refl w.heap.size W).setCell (p := ⟨w.heap.size, 0, none⟩) (Nat.le_refl _) _).setCell (p := ⟨w.heap.size + 1, 0, none⟩) (by show _ ≤ w.heap.size + 1; omega) _, ?_⟩, ⟨_, hv1.set _, by rw [HR.out]; exact World.ownsRow_nil _ _ _ _, trivial⟩, by rw [HR.out]; exact (hS.set _).other (by omega) _, hB.trans (((Below.refl w.heap.size W).setCell (p := ⟨w.heap.size, 0, none⟩) (Nat.le_refl _) _).setCell (p := ⟨w.heap.size + 1, 0, none⟩) (by show _ ≤ w.heap.size + 1; omega) _)⟩
        rw [Below.heap_setCell _ _ _ (w.heap.size + 2) (by show w.heap.size + 2 ≠ w.heap.size + 1; omega), Below.heap_setCell _ _ _ (w.heap.size + 2) (by show w.heap.size + 2 ≠ w.heap.size; omega)]
      · by_cases h2 : b = 99
        · have h1b : (b == 115) = false := beq_eq_false_iff_ne.2 h1
          have h2b : (b == 99) = true := by rw [h2]; rfl
          rw [hst, if_neg h1, if_pos h2] at HR
          replace HR := Lib.hid HR
          clear hst h1 h2
          have hmx : Try.prog.follows .mixedOrders = true := by kernel_rfl
          obtain ⟨Wd, hWd⟩ : ∃ Wd, W.drew = Wd := ⟨_, rfl⟩
          have hdh : Wd.heap = W.heap := by rw [← hWd]; rfl
          have hdb : Below W.heap.size W Wd := by rw [← hWd]; exact below_drew1 (Below.refl _ _)
          have hko : KeepsOthers W Wd := by rw [← hWd]; exact KeepsOthers.drew _
          replace hv : Boxed Wd (w.heap.size + 1) 22 v := by unfold Boxed at hv ⊢; rw [hdh]; exact hv
          replace hS : Boxed Wd w.heap.size 9 (.string st1) := by unfold Boxed at hS ⊢; rw [hdh]; exact hS
          replace hrow : Wd.ownsRow (w.heap.size + 3) 9 1 v st2.length (st2.map Value.string) := by unfold World.ownsRow at hrow ⊢; rw [hdh]; exact hrow
          have hWd2 : w.heap.size + 3 ≤ Wd.heap.size := by rw [hdh]; exact hW
          replace hdh := Lib.hid hdh
          obtain ⟨v', w1, hrun, hown', hgrow, hnil⟩ := run_append_own (P := Try.prog) (Wd.alloc (.cells #[.string cutx] 9)) (w.heap.size + 3) 22 22 9 i0 (.string ⟨#[]⟩) 1 16 Try.underlying22 hi hz0 hz1 hz2 rfl (by decide) v st2.length (st2.map Value.string) (hrow.alloc _) ⟨Wd.heap.size, 0, none⟩ 1 1 [.string cutx] rfl (cell_one_new _ _ _) (by simp [Value.oneCell']) (by simp only [maxLen]; omega) (by omega) (by rw [World.size_alloc]; omega)
          obtain ⟨g', cap', rfl⟩ := ownsRow_succ hown'
          obtain ⟨hv1, hv2, hS2, hr2, hk2, hb2, hs2⟩ := rec_step hv hS hrow hWd2 hown' hgrow
          have hcV := hv.cell
          have hcV2 := (hv.alloc (.cells #[.string cutx] 9)).cell
          have hc1 := hv1.cell
          have hf1 := hv1.frozen
          clear hnil
          replace hrun := Lib.hid hrun
          gi_wp2
          refine wpIn_region_any hmx ?_
          rw [show ({ W with drawn := W.drawn + 1 } : World) = Wd from hWd]
          refine wpAnyIn_ready (rs := [0, 1]) (by kernel_rfl) (by simp) ?_
          refine AllReadyIn.cons rfl (fun K hK => ?_) ?_
          · go_simp
            refine hK _ _ ?_; clear hK K
            refine wpAnyIn_ready (rs := [1]) (by kernel_rfl) (by simp) ?_
            refine AllReadyIn.cons rfl (fun K hK => ?_) ?_
            · go_simp
              refine hK _ _ ?_; clear hK K
              refine wpAnyIn_ready (rs := [2]) (by kernel_rfl) (by simp) ?_
              refine AllReadyIn.cons rfl (fun K hK => ?_) ?_
              · go_simp
                refine hK _ _ ?_; clear hK K
                refine wpAnyIn_ready (rs := [3]) (by kernel_rfl) (by simp) ?_
                refine AllReadyIn.cons rfl (fun K hK => ?_) ?_
                · go_simp
                  refine hK _ _ ?_; clear hK K
                  refine wpAnyIn_ready (rs := [4]) (by kernel_rfl) (by simp) ?_
                  refine AllReadyIn.cons rfl (fun K hK => ?_) ?_
                  · rw [if_pos (by rfl)]
                    unfold Oper.wpIn
                    refine ⟨?_, ?_⟩
                    · simp [Oper.about, resolve, Target.leads, Sem.run_pure]
                    · rw [Oper.semAt_plain _ _ _ (by intro c hc'; cases hc')]
                      have hrun' := hrun.out
                      simp [execOp, resolve, invoke, builtin, Act.eval, hrun', Result.andThen]
                      clear hrun'
                      refine hK _ _ ?_; clear hK K
                      refine wpAnyIn_ready (rs := [5]) (by kernel_rfl) (by simp) ?_
                      refine AllReadyIn.cons rfl (fun K hK => ?_) ?_
                      · go_simp
                        refine hK _ _ ?_; clear hK K
                        refine wpAnyIn_done (by kernel_rfl) ?_ _
                        refine ⟨hko.trans hk2, ⟨(hdb.mono (by omega)).trans hb2, hs2.trans (by rw [hdh.out])⟩, ⟨_, hv2, by rw [HR.out]; simpa using hr2, trivial⟩, by rw [HR.out]; exact hS2, hB.trans ((hdb.mono (by omega)).trans hb2)⟩
                      exact AllReadyIn.nil
                  exact AllReadyIn.nil
                exact AllReadyIn.nil
              exact AllReadyIn.nil
            exact AllReadyIn.nil
          refine AllReadyIn.cons rfl (fun K hK => ?_) ?_
          · go_simp
            refine hK _ _ ?_; clear hK K
            refine wpAnyIn_ready (rs := [0, 2]) (by kernel_rfl) (by simp) ?_
            refine AllReadyIn.cons rfl (fun K hK => ?_) ?_
            · go_simp
              refine hK _ _ ?_; clear hK K
              refine wpAnyIn_ready (rs := [2]) (by kernel_rfl) (by simp) ?_
              refine AllReadyIn.cons rfl (fun K hK => ?_) ?_
              · go_simp
                refine hK _ _ ?_; clear hK K
                refine wpAnyIn_ready (rs := [3]) (by kernel_rfl) (by simp) ?_
                refine AllReadyIn.cons rfl (fun K hK => ?_) ?_
                · go_simp
                  refine hK _ _ ?_; clear hK K
                  refine wpAnyIn_ready (rs := [4]) (by kernel_rfl) (by simp) ?_
                  refine AllReadyIn.cons rfl (fun K hK => ?_) ?_
                  · rw [if_pos (by rfl)]
                    unfold Oper.wpIn
                    refine ⟨?_, ?_⟩
                    · simp [Oper.about, resolve, Target.leads, Sem.run_pure]
                    · rw [Oper.semAt_plain _ _ _ (by intro c hc'; cases hc')]
                      have hrun' := hrun.out
                      simp [execOp, resolve, invoke, builtin, Act.eval, hrun', Result.andThen]
                      clear hrun'
                      refine hK _ _ ?_; clear hK K
                      refine wpAnyIn_ready (rs := [5]) (by kernel_rfl) (by simp) ?_
                      refine AllReadyIn.cons rfl (fun K hK => ?_) ?_
                      · go_simp
                        refine hK _ _ ?_; clear hK K
                        refine wpAnyIn_done (by kernel_rfl) ?_ _
                        refine ⟨hko.trans hk2, ⟨(hdb.mono (by omega)).trans hb2, hs2.trans (by rw [hdh.out])⟩, ⟨_, hv2, by rw [HR.out]; simpa using hr2, trivial⟩, by rw [HR.out]; exact hS2, hB.trans ((hdb.mono (by omega)).trans hb2)⟩
                      exact AllReadyIn.nil
                  exact AllReadyIn.nil
                exact AllReadyIn.nil
              exact AllReadyIn.nil
            refine AllReadyIn.cons rfl (fun K hK => ?_) ?_
            · go_simp
              refine hK _ _ ?_; clear hK K
              refine wpAnyIn_ready (rs := [0, 3]) (by kernel_rfl) (by simp) ?_
              refine AllReadyIn.cons rfl (fun K hK => ?_) ?_
              · go_simp
                refine hK _ _ ?_; clear hK K
                refine wpAnyIn_ready (rs := [3]) (by kernel_rfl) (by simp) ?_
                refine AllReadyIn.cons rfl (fun K hK => ?_) ?_
                · go_simp
                  refine hK _ _ ?_; clear hK K
                  refine wpAnyIn_ready (rs := [4]) (by kernel_rfl) (by simp) ?_
                  refine AllReadyIn.cons rfl (fun K hK => ?_) ?_
                  · rw [if_pos (by rfl)]
                    unfold Oper.wpIn
                    refine ⟨?_, ?_⟩
                    · simp [Oper.about, resolve, Target.leads, Sem.run_pure]
                    · rw [Oper.semAt_plain _ _ _ (by intro c hc'; cases hc')]
                      have hrun' := hrun.out
                      simp [execOp, resolve, invoke, builtin, Act.eval, hrun', Result.andThen]
                      clear hrun'
                      refine hK _ _ ?_; clear hK K
                      refine wpAnyIn_ready (rs := [5]) (by kernel_rfl) (by simp) ?_
                      refine AllReadyIn.cons rfl (fun K hK => ?_) ?_
                      · go_simp
                        refine hK _ _ ?_; clear hK K
                        refine wpAnyIn_done (by kernel_rfl) ?_ _
                        refine ⟨hko.trans hk2, ⟨(hdb.mono (by omega)).trans hb2, hs2.trans (by rw [hdh.out])⟩, ⟨_, hv2, by rw [HR.out]; simpa using hr2, trivial⟩, by rw [HR.out]; exact hS2, hB.trans ((hdb.mono (by omega)).trans hb2)⟩
                      exact AllReadyIn.nil
                  exact AllReadyIn.nil
                exact AllReadyIn.nil
              refine AllReadyIn.cons rfl (fun K hK => ?_) ?_
              · go_simp
                refine hK _ _ ?_; clear hK K
                refine wpAnyIn_ready (rs := [0]) (by kernel_rfl) (by simp) ?_
                refine AllReadyIn.cons rfl (fun K hK => ?_) ?_
                · go_simp
                  refine hK _ _ ?_; clear hK K
                  refine wpAnyIn_ready (rs := [4]) (by kernel_rfl) (by simp) ?_
                  refine AllReadyIn.cons rfl (fun K hK => ?_) ?_
                  · rw [if_pos (by rfl)]
                    unfold Oper.wpIn
                    refine ⟨?_, ?_⟩
                    · simp [Oper.about, resolve, Target.leads, Sem.run_pure]
                    · rw [Oper.semAt_plain _ _ _ (by intro c hc'; cases hc')]
                      have hrun' := hrun.out
                      simp [execOp, resolve, invoke, builtin, Act.eval, hrun', Result.andThen]
                      clear hrun'
                      refine hK _ _ ?_; clear hK K
                      refine wpAnyIn_ready (rs := [5]) (by kernel_rfl) (by simp) ?_
                      refine AllReadyIn.cons rfl (fun K hK => ?_) ?_
                      · go_simp
                        refine hK _ _ ?_; clear hK K
                        refine wpAnyIn_done (by kernel_rfl) ?_ _
                        refine ⟨hko.trans hk2, ⟨(hdb.mono (by omega)).trans hb2, hs2.trans (by rw [hdh.out])⟩, ⟨_, hv2, by rw [HR.out]; simpa using hr2, trivial⟩, by rw [HR.out]; exact hS2, hB.trans ((hdb.mono (by omega)).trans hb2)⟩
                      exact AllReadyIn.nil
                  exact AllReadyIn.nil
                exact AllReadyIn.nil
              exact AllReadyIn.nil
            exact AllReadyIn.nil
          exact AllReadyIn.nil
        · have h1b : (b == 115) = false := beq_eq_false_iff_ne.2 h1
          have h2b : (b == 99) = false := beq_eq_false_iff_ne.2 h2
          rw [hst, if_neg h1, if_neg h2] at HR
          replace HR := Lib.hid HR
          clear hst h1 h2
          gi_wp2
          exact ⟨KeepsOthers.refl _, ⟨Below.refl _ _, rfl⟩, ⟨v, hv, by rw [HR.out]; exact hrow, trivial⟩, by rw [HR.out]; exact hS, hB⟩
  case done =>
    rintro D ys W hD rfl ⟨⟨v, hv, hrow, _⟩, hA, hB⟩ hK
    have hc := hv.cell
    have hc2 := hA.cell
    gi_wp2
    gi_quiet (fail)
    obtain ⟨W2, hW2⟩ : ∃ W2, W.drewN nq = W2 := ⟨_, rfl⟩
    have hh : W2.heap = W.heap := by rw [← hW2]; rfl
    have hd : Below w.heap.size w W2 := by rw [← hW2]; exact pw_below_drewN (hB0.trans hB) nq
    have hK2 : W2.heap[D]? = some (.deferred (some [])) := by rw [hh]; exact hK
    have hrow2 : W2.ownsRow (w.heap.size + 3) 9 1 v (recOf (texts ys)).2.length ((recOf (texts ys)).2.map Value.string) := by unfold World.ownsRow at hrow ⊢; rw [hh]; exact hrow
    rw [hW2]
    gi_wp2
    refine ⟨by simp, .inl ⟨_, _, rfl, run_takeDeferred hK2, ?_⟩⟩
    exact ⟨_, results_tmp2 rfl _ _ _, v, rfl, own_lower (ownsRow_putObj hrow2 _ hK2 rfl) (by omega), hd.trans (belowK_b (w := w) (Nat.le_refl _) W2 D _ _ (by omega) hK2 rfl rfl)⟩
  case stop =>
    rintro D c pre W _ _ h _
    exact h.elim
theorem row_of_own {W : World} {base : Nat} {v : Value} {l : List ByteArray} (h : W.ownsRow base 9 1 v l.length (l.map Value.string)) : ∃ A c, v = .slice A l.length c ∧ l.length ≤ c ∧ Kd.C Kd.string W A l.length l := by
  have hr : Kd.R Kd.string 9 W base (fun _ => True) v l := by
    refine ⟨fun _ _ => trivial, _, h, by rw [List.length_map]; exact (Nat.mul_one _).symm, fun j p hj => ?_⟩
    have e : (l.map Value.string)[j]? = some (Value.string p) := by rw [List.getElem?_map, hj]; rfl
    have hlt : j < (l.map Value.string).length := (List.getElem?_eq_some_iff.1 e).1
    show ((l.map Value.string).drop (j * 1)).take 1 = [Value.string p]
    rw [Nat.mul_one, List.drop_eq_getElem_cons hlt]
    rw [List.getElem?_eq_getElem hlt] at e
    injection e with e
    rw [e]
    rfl
  exact Kd.R_reads hr
/-- The texts that bytes tell. -/
def scanL (s : ByteArray) : List ByteArray := texts (recs s (s.size + 1) 0)
def scanE (s : ByteArray) : Int := lastEnd (recs s (s.size + 1) 0)
theorem scan_calls (s : ByteArray) (hs : s.size ≤ 8796093022200) (w : World) :
    Calls Try.prog 17 #[.string s] w fun e w' => ∃ A c, e = .returned (.tuple #[.slice A (scanL s).length c, .int .i64 (scanE s)]) ∧ (scanL s).length ≤ c ∧ Kd.C Kd.string w' A (scanL s).length (scanL s) ∧ Below w.heap.size w w' := by
  refine (callsIn_wide.1 (scan_in s hs w)).mono ?_
  rintro e w' ⟨v, rfl, hr, hb⟩
  obtain ⟨A, c, rfl, hc, hC⟩ := row_of_own hr
  exact ⟨A, c, rfl, hc, hC, hb⟩
theorem recover_calls (s : ByteArray) (hs : s.size ≤ 8796093022200) (w : World) :
    Calls Try.prog 18 #[.string s] w fun e w' => ∃ A c, e = .returned (.tuple #[.string (recOf (scanL s)).1, .slice A (recOf (scanL s)).2.length c]) ∧ (recOf (scanL s)).2.length ≤ c ∧ Kd.C Kd.string w' A (recOf (scanL s)).2.length (recOf (scanL s)).2 ∧ Below w.heap.size w w' := by
  refine (callsIn_wide.1 (recover_in s hs w)).mono ?_
  rintro e w' ⟨v, rfl, hr, hb⟩
  obtain ⟨A, c, rfl, hc, hC⟩ := row_of_own hr
  exact ⟨A, c, rfl, hc, hC, hb⟩
end Go.Proofs.Ytdbbhijicmeckaa.Q
