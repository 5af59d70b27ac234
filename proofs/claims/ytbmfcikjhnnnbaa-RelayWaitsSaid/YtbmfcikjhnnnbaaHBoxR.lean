/- relay.box: whether a box may be, of a relay's time and next number.
   Conditions: the mails are read as such, their texts no longer than a text may be, the numbers of 64 bits. -/
import Derived.Test.YtbmfcikjhnnnbaaHStep
import Derived.Test.YtbmfcikjhnnnbaaHField
import Derived.StringKeys
namespace Go.Proofs.Ytbmfcikjhnnnbaa.Q
open Go.RowKit Go.Proofs.YtbmfcikjhnnnbaaW.PrintWords Go.Proofs.YtbmfcikjhnnnbaaW.PrintLast Go.Proofs.YtbmfcikjhnnnbaaW.PrintMore
set_option linter.unusedVariables false
set_option linter.unusedSimpArgs false
abbrev bHBoxR0 : Array Bool := #[false, false, false, false, false, false, false, false, false, false, false, false, false, false, false, false, false, false, false, false, false, false, false, false, false, false, false, false, false, false, false, false, false, false, false, false, false, false, false, false, false, false, false, false, false, false, false, false, false]
abbrev bHBoxR1 : Array Bool := #[true, false, false, false, false, false, false, false, false, false, false, false, false, false, false, false, false, false, false, false, false, false, false, false, false, false, false, false, false, false, false, false, false, false, false, false, false, false, false, false, false, false, false, false, false, false, false, false, false]
abbrev bHBoxR2 : Array Bool := #[true, true, false, false, false, false, false, false, false, false, false, false, false, false, false, false, false, false, false, false, false, false, false, false, false, false, false, false, false, false, false, false, false, false, false, false, false, false, false, false, false, false, false, false, false, false, false, false, false]
abbrev bHBoxR3 : Array Bool := #[true, true, true, false, false, false, false, false, false, false, false, false, false, false, false, false, false, false, false, false, false, false, false, false, false, false, false, false, false, false, false, false, false, false, false, false, false, false, false, false, false, false, false, false, false, false, false, false, false]
abbrev bHBoxR4 : Array Bool := #[true, true, true, true, false, false, false, false, false, false, false, false, false, false, false, false, false, false, false, false, false, false, false, false, false, false, false, false, false, false, false, false, false, false, false, false, false, false, false, false, false, false, false, false, false, false, false, false, false]
abbrev bHBoxR5 : Array Bool := #[true, true, true, true, true, false, false, false, false, false, false, false, false, false, false, false, false, false, false, false, false, false, false, false, false, false, false, false, false, false, false, false, false, false, false, false, false, false, false, false, false, false, false, false, false, false, false, false, false]
abbrev bHBoxR6 : Array Bool := #[true, true, true, true, true, true, false, false, false, false, false, false, false, false, false, false, false, false, false, false, false, false, false, false, false, false, false, false, false, false, false, false, false, false, false, false, false, false, false, false, false, false, false, false, false, false, false, false, false]
abbrev bHBoxR7 : Array Bool := #[true, true, true, true, true, true, true, false, false, false, false, false, false, false, false, false, false, false, false, false, false, false, false, false, false, false, false, false, false, false, false, false, false, false, false, false, false, false, false, false, false, false, false, false, false, false, false, false, false]
abbrev bHBoxR8 : Array Bool := #[true, true, true, true, true, true, true, true, false, false, false, false, false, false, false, false, false, false, false, false, false, false, false, false, false, false, false, false, false, false, false, false, false, false, false, false, false, false, false, false, false, false, false, false, false, false, false, false, false]
abbrev bHBoxR9 : Array Bool := #[true, true, true, true, true, true, true, true, true, false, false, false, false, false, false, false, false, false, false, false, false, false, false, false, false, false, false, false, false, false, false, false, false, false, false, false, false, false, false, false, false, false, false, false, false, false, false, false, false]
abbrev bHBoxR10 : Array Bool := #[true, true, true, true, true, true, true, true, true, true, false, false, false, false, false, false, false, false, false, false, false, false, false, false, false, false, false, false, false, false, false, false, false, false, false, false, false, false, false, false, false, false, false, false, false, false, false, false, false]
abbrev bHBoxR11 : Array Bool := #[true, true, true, true, true, true, true, true, true, true, true, false, false, false, false, false, false, false, false, false, false, false, false, false, false, false, false, false, false, false, false, false, false, false, false, false, false, false, false, false, false, false, false, false, false, false, false, false, false]
abbrev bHBoxR12 : Array Bool := #[true, true, true, true, true, true, true, true, true, true, true, true, false, false, false, false, false, false, false, false, false, false, false, false, false, false, false, false, false, false, false, false, false, false, false, false, false, false, false, false, false, false, false, false, false, false, false, false, false]
abbrev bHBoxR13 : Array Bool := #[true, true, true, true, true, true, true, true, true, true, true, true, true, false, false, false, false, false, false, false, false, false, false, false, false, false, false, false, false, false, false, false, false, false, false, false, false, false, false, false, false, false, false, false, false, false, false, false, false]
abbrev bHBoxR14 : Array Bool := #[true, true, true, true, true, true, true, true, true, true, true, true, true, true, false, false, false, false, false, false, false, false, false, false, false, false, false, false, false, false, false, false, false, false, false, false, false, false, false, false, false, false, false, false, false, false, false, false, false]
abbrev bHBoxR15 : Array Bool := #[true, true, true, true, true, true, true, true, true, true, true, true, true, true, true, false, false, false, false, false, false, false, false, false, false, false, false, false, false, false, false, false, false, false, false, false, false, false, false, false, false, false, false, false, false, false, false, false, false]
abbrev bHBoxR16 : Array Bool := #[true, true, true, true, true, true, true, true, true, true, true, true, true, true, true, true, false, false, false, false, false, false, false, false, false, false, false, false, false, false, false, false, false, false, false, false, false, false, false, false, false, false, false, false, false, false, false, false, false]
abbrev bHBoxR17 : Array Bool := #[true, true, true, true, true, true, true, true, true, true, true, true, true, true, true, true, true, false, false, false, false, false, false, false, false, false, false, false, false, false, false, false, false, false, false, false, false, false, false, false, false, false, false, false, false, false, false, false, false]
abbrev bHBoxR18 : Array Bool := #[true, true, true, true, true, true, true, true, true, true, true, true, true, true, true, true, true, true, false, false, false, false, false, false, false, false, false, false, false, false, false, false, false, false, false, false, false, false, false, false, false, false, false, false, false, false, false, false, false]
abbrev bHBoxR19 : Array Bool := #[true, true, true, true, true, true, true, true, true, true, true, true, true, true, true, true, true, true, true, false, false, false, false, false, false, false, false, false, false, false, false, false, false, false, false, false, false, false, false, false, false, false, false, false, false, false, false, false, false]
abbrev bHBoxR20 : Array Bool := #[true, true, true, true, true, true, true, true, true, true, true, true, true, true, true, true, true, true, true, true, false, false, false, false, false, false, false, false, false, false, false, false, false, false, false, false, false, false, false, false, false, false, false, false, false, false, false, false, false]
abbrev bHBoxR21 : Array Bool := #[true, true, true, true, true, true, true, true, true, true, true, true, true, true, true, true, true, true, true, true, true, false, false, false, false, false, false, false, false, false, false, false, false, false, false, false, false, false, false, false, false, false, false, false, false, false, false, false, false]
abbrev bHBoxR22 : Array Bool := #[true, true, true, true, true, true, true, true, true, true, true, true, true, true, true, true, true, true, true, true, true, true, false, false, false, false, false, false, false, false, false, false, false, false, false, false, false, false, false, false, false, false, false, false, false, false, false, false, false]
abbrev bHBoxR23 : Array Bool := #[true, true, true, true, true, true, true, true, true, true, true, true, true, true, true, true, true, true, true, true, true, true, true, false, false, false, false, false, false, false, false, false, false, false, false, false, false, false, false, false, false, false, false, false, false, false, false, false, false]
abbrev bHBoxR24 : Array Bool := #[true, true, true, true, true, true, true, true, true, true, true, true, true, true, true, true, true, true, true, true, true, true, true, true, false, false, false, false, false, false, false, false, false, false, false, false, false, false, false, false, false, false, false, false, false, false, false, false, false]
abbrev bHBoxR25 : Array Bool := #[true, true, true, true, true, true, true, true, true, true, true, true, true, true, true, true, true, true, true, true, true, true, true, true, true, false, false, false, false, false, false, false, false, false, false, false, false, false, false, false, false, false, false, false, false, false, false, false, false]
abbrev bHBoxR26 : Array Bool := #[true, true, true, true, true, true, true, true, true, true, true, true, true, true, true, true, true, true, true, true, true, true, true, true, true, true, false, false, false, false, false, false, false, false, false, false, false, false, false, false, false, false, false, false, false, false, false, false, false]
abbrev bHBoxR27 : Array Bool := #[true, true, true, true, true, true, true, true, true, true, true, true, true, true, true, true, true, true, true, true, true, true, true, true, true, true, true, false, false, false, false, false, false, false, false, false, false, false, false, false, false, false, false, false, false, false, false, false, false]
abbrev bHBoxR28 : Array Bool := #[true, true, true, true, true, true, true, true, true, true, true, true, true, true, true, true, true, true, true, true, true, true, true, true, true, true, true, true, false, false, false, false, false, false, false, false, false, false, false, false, false, false, false, false, false, false, false, false, false]
abbrev bHBoxR29 : Array Bool := #[true, true, true, true, true, true, true, true, true, true, true, true, true, true, true, true, true, true, true, true, true, true, true, true, true, true, true, true, true, false, false, false, false, false, false, false, false, false, false, false, false, false, false, false, false, false, false, false, false]
abbrev bHBoxR30 : Array Bool := #[true, true, true, true, true, true, true, true, true, true, true, true, true, true, true, true, true, true, true, true, true, true, true, true, true, true, true, true, true, true, false, false, false, false, false, false, false, false, false, false, false, false, false, false, false, false, false, false, false]
abbrev bHBoxR31 : Array Bool := #[true, true, true, true, true, true, true, true, true, true, true, true, true, true, true, true, true, true, true, true, true, true, true, true, true, true, true, true, true, true, true, false, false, false, false, false, false, false, false, false, false, false, false, false, false, false, false, false, false]
abbrev bHBoxR32 : Array Bool := #[true, true, true, true, true, true, true, true, true, true, true, true, true, true, true, true, true, true, true, true, true, true, true, true, true, true, true, true, true, true, true, true, false, false, false, false, false, false, false, false, false, false, false, false, false, false, false, false, false]
abbrev bHBoxR33 : Array Bool := #[true, true, true, true, true, true, true, true, true, true, true, true, true, true, true, true, true, true, true, true, true, true, true, true, true, true, true, true, true, true, true, true, true, false, false, false, false, false, false, false, false, false, false, false, false, false, false, false, false]
abbrev bHBoxR34 : Array Bool := #[true, true, true, true, true, true, true, true, true, true, true, true, true, true, true, true, true, true, true, true, true, true, true, true, true, true, true, true, true, true, true, true, true, true, false, false, false, false, false, false, false, false, false, false, false, false, false, false, false]
abbrev bHBoxR35 : Array Bool := #[true, true, true, true, true, true, true, true, true, true, true, true, true, true, true, true, true, true, true, true, true, true, true, true, true, true, true, true, true, true, true, true, true, true, true, false, false, false, false, false, false, false, false, false, false, false, false, false, false]
abbrev bHBoxR36 : Array Bool := #[true, true, true, true, true, true, true, true, true, true, true, true, true, true, true, true, true, true, true, true, true, true, true, true, true, true, true, true, true, true, true, true, true, true, true, true, false, false, false, false, false, false, false, false, false, false, false, false, false]
abbrev bHBoxR37 : Array Bool := #[true, true, true, true, true, true, true, true, true, true, true, true, true, true, true, true, true, true, true, true, true, true, true, true, true, true, true, true, true, true, true, true, true, true, true, true, true, false, false, false, false, false, false, false, false, false, false, false, false]
abbrev bHBoxR38 : Array Bool := #[true, true, true, true, true, true, true, true, true, true, true, true, true, true, true, true, true, true, true, true, true, true, true, true, true, true, true, true, true, true, true, true, true, true, true, true, true, true, false, false, false, false, false, false, false, false, false, false, false]
abbrev bHBoxR39 : Array Bool := #[true, true, true, true, true, true, true, true, true, true, true, true, true, true, true, true, true, true, true, true, true, true, true, true, true, true, true, true, true, true, true, true, true, true, true, true, true, true, true, false, false, false, false, false, false, false, false, false, false]
abbrev bHBoxR40 : Array Bool := #[true, true, true, true, true, true, true, true, true, true, true, true, true, true, true, true, true, true, true, true, true, true, true, true, true, true, true, true, true, true, true, true, true, true, true, true, true, true, true, true, false, false, false, false, false, false, false, false, false]
abbrev bHBoxR41 : Array Bool := #[true, true, true, true, true, true, true, true, true, true, true, true, true, true, true, true, true, true, true, true, true, true, true, true, true, true, true, true, true, true, true, true, true, true, true, true, true, true, true, true, true, false, false, false, false, false, false, false, false]
abbrev bHBoxR42 : Array Bool := #[true, true, true, true, true, true, true, true, true, true, true, true, true, true, true, true, true, true, true, true, true, true, true, true, true, true, true, true, true, true, true, true, true, true, true, true, true, true, true, true, true, true, false, false, false, false, false, false, false]
abbrev bHBoxR43 : Array Bool := #[true, true, true, true, true, true, true, true, true, true, true, true, true, true, true, true, true, true, true, true, true, true, true, true, true, true, true, true, true, true, true, true, true, true, true, true, true, true, true, true, true, true, true, false, false, false, false, false, false]
abbrev bHBoxR44 : Array Bool := #[true, true, true, true, true, true, true, true, true, true, true, true, true, true, true, true, true, true, true, true, true, true, true, true, true, true, true, true, true, true, true, true, true, true, true, true, true, true, true, true, true, true, true, true, false, false, false, false, false]
abbrev bHBoxR45 : Array Bool := #[true, true, true, true, true, true, true, true, true, true, true, true, true, true, true, true, true, true, true, true, true, true, true, true, true, true, true, true, true, true, true, true, true, true, true, true, true, true, true, true, true, true, true, true, true, false, false, false, false]
abbrev bHBoxR46 : Array Bool := #[true, true, true, true, true, true, true, true, true, true, true, true, true, true, true, true, true, true, true, true, true, true, true, true, true, true, true, true, true, true, true, true, true, true, true, true, true, true, true, true, true, true, true, true, true, true, false, false, false]
abbrev bHBoxR47 : Array Bool := #[true, true, true, true, true, true, true, true, true, true, true, true, true, true, true, true, true, true, true, true, true, true, true, true, true, true, true, true, true, true, true, true, true, true, true, true, true, true, true, true, true, true, true, true, true, true, true, false, false]
abbrev bHBoxR48 : Array Bool := #[true, true, true, true, true, true, true, true, true, true, true, true, true, true, true, true, true, true, true, true, true, true, true, true, true, true, true, true, true, true, true, true, true, true, true, true, true, true, true, true, true, true, true, true, true, true, true, true, false]
abbrev bHBoxR49 : Array Bool := #[true, true, true, true, true, true, true, true, true, true, true, true, true, true, true, true, true, true, true, true, true, true, true, true, true, true, true, true, true, true, true, true, true, true, true, true, true, true, true, true, true, true, true, true, true, true, true, true, true]
abbrev bHBoxR50 : Array Bool := #[true, true, true, true, true, true, true, true, true, true, true, true, true, false, true, false, false, false, false, false, false, false, false, false, false, false, false, false, false, false, false, false, false, false, false, false, false, false, false, false, false, false, false, false, false, false, false, false, false]
abbrev bHBoxR51 : Array Bool := #[true, true, true, true, true, true, true, true, true, true, true, true, true, true, true, true, true, true, true, true, true, true, true, true, true, true, true, true, true, true, true, true, true, true, true, true, false, true, false, false, false, false, false, false, false, false, false, false, false]
abbrev bHBoxR52 : Array Bool := #[true, true, true, true, true, true, true, true, true, true, true, true, true, true, true, true, true, true, true, true, true, true, true, true, true, true, true, true, true, true, true, true, true, true, true, true, true, true, true, true, true, true, true, false, true, false, false, false, false]
abbrev bHBoxR53 : Array Bool := #[true, true, true, true, true, true, true, true, true, true, true, true, true, true, true, true, true, true, true, true, true, true, true, false, true, false, false, false, false, false, false, false, false, false, false, false, false, false, false, false, false, false, false, false, false, false, false, false, false]
abbrev bHBoxR54 : Array Bool := #[true, true, true, true, true, true, true, true, true, true, true, true, true, true, true, true, true, true, true, true, true, true, true, false, true, true, false, false, false, false, false, false, false, false, false, false, false, false, false, false, false, false, false, false, false, false, false, false, false]
abbrev bHBoxR55 : Array Bool := #[true, true, true, true, true, true, true, true, true, true, true, true, true, true, true, true, true, true, true, true, true, true, true, false, true, true, false, false, false, true, false, false, false, false, false, false, false, false, false, false, false, false, false, false, false, false, false, false, false]
abbrev bHBoxR56 : Array Bool := #[true, true, true, true, true, true, true, true, true, true, true, true, true, true, true, true, true, true, true, true, true, true, true, true, true, true, false, false, false, true, false, false, false, false, false, false, false, false, false, false, false, false, false, false, false, false, false, false, false]
abbrev bHBoxR57 : Array Bool := #[true, true, true, true, true, true, true, true, true, true, true, true, true, true, true, true, true, true, true, true, true, true, true, true, true, true, true, false, false, true, false, false, false, false, false, false, false, false, false, false, false, false, false, false, false, false, false, false, false]
abbrev bHBoxR58 : Array Bool := #[true, true, true, true, true, true, true, true, true, true, true, true, true, true, true, true, true, true, true, true, true, true, true, true, true, true, true, true, false, true, false, false, false, false, false, false, false, false, false, false, false, false, false, false, false, false, false, false, false]

abbrev txt (s : ByteArray) : List UInt8 := s.data.toList
def okM (now next : Int) (l : List S54) (i : Nat) : Bool :=
  (!((l.take i).map (fun p => txt p.f1)).contains (txt (rd_T54 l (i : Int)).f1)) && (decide ((rd_T54 l (i : Int)).f1.size ≤ 1400) && (decide ((rd_T54 l (i : Int)).f0 < next) && ((decide (i = 0) || decide ((rd_T54 l ((i : Int) - 1)).f0 < (rd_T54 l (i : Int)).f0)) && (decide ((rd_T54 l (i : Int)).f2 ≤ now) && decide (now - (rd_T54 l (i : Int)).f2 ≤ 50)))))
def boxB (now next : Int) (x : S57) : Bool := ((List.range x.f1.length).all fun i => okM now next x.f1 i) && (decide (1 ≤ x.f1.length) && decide (x.f1.length ≤ 16))
theorem boxB_no {now next : Int} {x : S57} (i : Nat) (hi : i < x.f1.length) (h : okM now next x.f1 i = false) : boxB now next x = false := by
  unfold boxB
  rw [Bool.and_eq_false_iff]
  left
  rw [List.all_eq_false]
  exact ⟨i, List.mem_range.2 hi, by simp [h]⟩
theorem boxB_yes {now next : Int} {x : S57} (h : ∀ i, i < x.f1.length → okM now next x.f1 i = true) : boxB now next x = (decide (1 ≤ x.f1.length) && decide (x.f1.length ≤ 16)) := by
  unfold boxB
  rw [List.all_eq_true.2 (fun i hi => h i (List.mem_range.1 hi)), Bool.true_and]
def SeenS (D : DataW Unit) (ks : List (List UInt8)) : Prop := Maps.IsMap D ∧ ∀ k : List UInt8, D.atKey (.string k) (.lit (.int .i64 0)) = .lit (.int .i64 (if ks.contains k then 1 else 0))
theorem seenS_none : SeenS (.map []) [] := ⟨Maps.isMap_empty, fun k => rfl⟩
theorem lit_inj {a b : Int} (h : (DataW.lit (.int .i64 a) : DataW Unit) = .lit (.int .i64 b)) : a = b := by
  injection h with h
  injection h
theorem takeS_snoc (l : List S54) (i : Nat) (hi : i < l.length) : (l.take (i + 1)).map (fun p => txt p.f1) = (l.take i).map (fun p => txt p.f1) ++ [txt (rd_T54 l (i : Int)).f1] := by
  rw [List.take_succ_eq_append_getElem hi, List.map_append]
  simp [rd_T54, hi]
theorem seenS_put {D : DataW Unit} {ks : List (List UInt8)} (h : SeenS D ks) (k : List UInt8) (hk : ks.contains k = false) : SeenS (D.put (.string k) (.lit (.int .i64 1))) (ks ++ [k]) := by
  obtain ⟨hm, ha⟩ := h
  refine ⟨?_, fun k' => ?_⟩
  · obtain ⟨es, rfl⟩ := hm
    exact ⟨_, rfl⟩
  · by_cases e : k' = k
    · subst e
      rw [Maps.atKey_put_same hm (by trivial), if_pos (by simp)]
    · rw [Maps.atKey_put_other (by intro h'; injection h' with h'; exact e h'), ha k']
      congr 2
      have : (ks ++ [k]).contains k' = ks.contains k' := by
        rw [List.contains_append]
        simp [e]
      rw [this]
theorem box3 {W : World} {g : Nat} {a b c : Value} {t : Nat} (h : W.heap[g]? = some (.cells #[a, b, c] t (0, 0))) : W.cell? ⟨g, 0, none⟩ = some a ∧ W.cell? ⟨g, 1, none⟩ = some b ∧ W.cell? ⟨g, 2, none⟩ = some c :=
  ⟨(blk_cell h 0).trans rfl, (blk_cell h 1).trans rfl, (blk_cell h 2).trans rfl⟩
theorem wrap_in' (n : Int) (h0 : 0 ≤ n) (h1 : n ≤ 9223372036854775807) : wrap64 n = n := by unfold wrap64; omega
set_option maxHeartbeats 4000000 in
set_option maxRecDepth 100000 in
theorem box_calls (rb : Value) (now next : Int) (x : S57) (A : Option Addr) (c : Nat) (w : World) (hrb : rb.oneCell' = true) (hC : k54.C w A x.f1.length x.f1) (hc : x.f1.length ≤ c) (hlen : x.f1.length ≤ 1000000) (hsz : ∀ m ∈ x.f1, m.f1.size ≤ maxLen) (hpos : ∀ m ∈ x.f1, 0 ≤ m.f2) (hnow : 0 ≤ now ∧ now ≤ 18446744073709551615) :
    Calls Try.prog 34 #[.agg #[rb, .int .u64 now, .int .u64 next], sv x A c] w fun e w' => e = .returned (.bool (boxB now next x)) ∧ Below w.heap.size w w' := by
  obtain ⟨w1, hw1⟩ : ∃ w1, w.alloc (.cells #[rb, .int .u64 now, .int .u64 next] 25 (0, 0)) = w1 := ⟨_, rfl⟩
  have hb1 : Below w.heap.size w w1 := by rw [← hw1]; exact below_alloc (Below.refl _ _) _
  have hs1 : w1.heap.size = w.heap.size + 1 := by rw [← hw1]; simp
  have hK1 : w1.heap[w.heap.size]? = some (.cells #[rb, .int .u64 now, .int .u64 next] 25 (0, 0)) := by rw [← hw1]; exact heap_alloc_new _ _
  obtain ⟨w2, hw2⟩ : ∃ w2, w1.alloc (.cells #[.int .u64 x.f0, .slice A x.f1.length c] 57 (0, 0)) = w2 := ⟨_, rfl⟩
  have hb2 : Below w1.heap.size w1 w2 := by rw [← hw2]; exact below_alloc (Below.refl _ _) _
  have hs2 : w2.heap.size = w.heap.size + 2 := by rw [← hw2]; simp [hs1]
  have hK2 : w2.heap[w.heap.size + 1]? = some (.cells #[.int .u64 x.f0, .slice A x.f1.length c] 57 (0, 0)) := by rw [← hs1, ← hw2]; exact heap_alloc_new _ _
  have hK12 := (hb2.block _ (blk_lt hK1)).trans hK1
  have hB2 := below_step hb1 hb2
  have z1 : w2.cell? ⟨w.heap.size + 1, 1, none⟩ = some (.slice A x.f1.length c) := (blk_cell hK2 1).trans rfl
  have zz : (w2.alloc (.map #[] 0)).cell? ⟨w.heap.size + 1, 1, none⟩ = some (.slice A x.f1.length c) := (Below.cell (p := ⟨w.heap.size + 1, 1, none⟩) (below_alloc (Below.refl _ _) _) (blk_lt hK2)).trans z1
  have hC2 := Aside0.mk (Kd.C_below hC hB2)
  have hmm := @run_makeMap Try.prog
  replace hsz := Lib.hid hsz
  replace hpos := Lib.hid hpos
  replace hs2 := Lib.hid hs2
  clear hK1 hb1 hb2 hC
  go_enter Try.func34, Try.ntmps34
  go_wp2
  clear hmm zz
  have hown0 := World.ownsMap_made (H := Unit) w2 Try.prog 9 (plainElem Try.prog 3)
  have hb0 : Below w2.heap.size w2 (w2.alloc (.map #[] 0)) := below_alloc (Below.refl _ _) _
  go_loopw [12] (fun v wr => ∃ (i : Nat) (D : DataW Unit), i ≤ x.f1.length ∧ v = .int .i64 (i : Int) ∧ wr.ownsMap Try.prog 9 (plainElem Try.prog 3) w2.heap.size i D ∧ SeenS D ((x.f1.take i).map (fun p => txt p.f1)) ∧ (∀ j, j < i → okM now next x.f1 j = true) ∧ Below w2.heap.size w2 wr) (fun v _ => x.f1.length - (intOf v).toNat)
  case atStart => exact ⟨0, _, by omega, rfl, hown0, seenS_none, fun j h => absurd h (Nat.not_lt_zero j), hb0⟩
  case round =>
    clear hown0 hb0
    obtain ⟨i, D, hi, rfl, hown, hS, hok, hB⟩ := hrel
    by_cases hlt : (i : Int) < x.f1.length
    · obtain ⟨ad, eA, q0, q1, q2⟩ := at_T54 (Kd.C_below hC2.out hB) (i : Int) (by omega) hlt
      subst eA
      have hts := takeS_snoc x.f1 i (by omega)
      have hoki : okM now next x.f1 i = ((!((x.f1.take i).map (fun p => txt p.f1)).contains (txt (rd_T54 x.f1 (i : Int)).f1)) && (decide ((rd_T54 x.f1 (i : Int)).f1.size ≤ 1400) && (decide ((rd_T54 x.f1 (i : Int)).f0 < next) && ((decide (i = 0) || decide ((rd_T54 x.f1 ((i : Int) - 1)).f0 < (rd_T54 x.f1 (i : Int)).f0)) && (decide ((rd_T54 x.f1 (i : Int)).f2 ≤ now) && decide (now - (rd_T54 x.f1 (i : Int)).f2 ≤ 50)))))) := rfl
      have hno := boxB_no (now := now) (next := next) (x := x) i (by omega)
      have hmem : rd_T54 x.f1 (i : Int) ∈ x.f1 := by simp [rd_T54, show i < x.f1.length by omega]
      have hm1 := hsz.out _ hmem
      have hm2 := hpos.out _ hmem
      have hprev : 0 < i → (∃ j, j + 1 = i ∧ w2.cell? (ad.add (j * 3)) = some (.int .u64 (rd_T54 x.f1 ((i : Int) - 1)).f0)) := fun h0 => by
        obtain ⟨ad', eA, p0, _, _⟩ := at_T54 hC2.out ((i : Int) - 1) (by omega) (by omega)
        cases eA
        rw [show ((i : Int) - 1).toNat = i - 1 by omega] at p0
        exact ⟨i - 1, by omega, p0⟩
      generalize rd_T54 x.f1 (i : Int) = m at q0 q1 q2 hts hoki hm1 hm2
      generalize rd_T54 x.f1 ((i : Int) - 1) = y at hoki hprev
      rw [Int.toNat_natCast] at q0 q1 q2
      obtain ⟨ks, hks⟩ : ∃ ks, (x.f1.take i).map (fun p => txt p.f1) = ks := ⟨_, rfl⟩
      rw [hks] at hS hts hoki
      have hkey : keyOf Try.prog 9 (.string m.f1) = some (.string m.f1.data.toList) := Go.WideMaps.keyOf_string_mk Try.underlying9 hm1
      obtain ⟨w3, hw3⟩ : ∃ w3, wr.alloc (.cells #[.int .u64 0, .string ⟨#[]⟩, .int .u64 0] 54 (0, 0)) = w3 := ⟨_, rfl⟩
      have hb3 : Below wr.heap.size wr w3 := by rw [← hw3]; exact below_alloc (Below.refl _ _) _
      have hK3 : w3.heap[wr.heap.size]? = some (.cells #[.int .u64 0, .string ⟨#[]⟩, .int .u64 0] 54 (0, 0)) := by rw [← hw3]; exact heap_alloc_new _ _
      have hmb := hown.lt
      have hadl : (ad.add (i * 3)).block < wr.heap.size := block_lt_of_cell q0
      obtain ⟨cc, hc'⟩ : ∃ c : Int, c = if ks.contains (txt m.f1) then 1 else 0 := ⟨_, rfl⟩
      have hSk := hS.2 (txt m.f1)
      rw [← hc'] at hSk
      have hcr : 0 ≤ cc ∧ cc ≤ 1 := by rw [hc']; split <;> omega
      have hwc : wrap64 (cc + 1) = cc + 1 := by unfold wrap64; omega
      have hcw : (Lit.int .i64 (cc + 1)).wf = true := by have := wrap64_wf (cc + 1); rwa [hwc] at this
      replace hSk := Lib.hid hSk
      replace hc' := Lib.hid hc'
      replace hprev := Aside0.mk hprev
      replace hok := Aside0.mk hok
      replace hoki := Aside0.mk hoki
      replace hno := Aside0.mk hno
      replace hm1 := Lib.hid hm1
      replace hks := Lib.hid hks
      replace hts := Lib.hid hts
      clear hmem
      go_wp2_with (first
        | ((with_reducible refine gate_store (t := 54) (p := 7) rfl ?_); go_loud (refine wpList_storeBox rfl rfl 54 (.tmp 7) (.tmp 16) rfl (.agg #[.int .u64 m.f0, .string m.f1, .int .u64 m.f2]) [.int .u64 m.f0, .string m.f1, .int .u64 m.f2] rfl rfl rfl (by kernel_rfl) (by simp [Value.oneCell']) hK3 rfl ?_); intro w4 hK4 hg4 hs4; clear hs4; have hb4 := Aside0.mk (pw_below_grown hb3 _ hb3.size hg4 (fun k hk => by cases hk; exact Nat.le_refl _)); clear hw3 hb3 hK3 hg4 q0 q1 q2; have y1 : w4.cell? ⟨wr.heap.size, 1, none⟩ = some (.string m.f1) := (blk_cell hK4 1).trans rfl; have hown1 := hown.kept (row := none) (below_grown hb4.out) (by simp))
        | (at_lookup; refine wpList_lookup_own_int _ rfl _ _ 81 rfl 9 3 .i64 (Maps.string_keyed Try.underlying9) Try.underlying81 Try.underlying3 (Try.zeroValue3 _) w2.heap.size i _ rfl hown1 _ _ rfl hkey ?_; intro c' hat _; obtain rfl : c' = cc := lit_inj (hat.symm.trans hSk.out))
        | (at_mapUpdate; refine wpList_mapUpdate_own _ rfl _ _ _ 81 rfl 9 3 (Maps.string_keyed Try.underlying9) Try.underlying81 _ w2.heap.size i _ rfl hown1 (by unfold maxLen; omega) _ _ _ rfl rfl hkey _ [] (plainElem_int Try.underlying3 hcw) ?_; intro w5 hown2 hg5; clear y1 hown1))
      have hB5 := Aside0.mk (pw_below_grown (below_step hB hb4.out) w2.heap.size (below_step hB hb4.out).size hg5 (fun k hk => by injection hk with hk; omega))
      have hK5 := (hg5.block _ (blk_lt hK4) (fun e => by injection e with e; omega)).trans hK4
      obtain ⟨c2, hrun0, hat2, _⟩ := hown2.lookup_int (Maps.string_keyed Try.underlying9) Try.underlying81 Try.underlying3 (Try.zeroValue3 _) hkey
      have hc2 : c2 = c' + 1 := lit_inj (hat2.symm.trans (Maps.atKey_put_same hS.1 (by trivial) _ _))
      clear hrun0 hat2
      have hrl : ∀ W : World, W.heap = w5.heap → (Instr.lookup 81 (.map (some w2.heap.size)) (.string m.f1) false).run Try.prog W = .ok (.int .i64 c2) W := fun W hW => by
        have hoW : W.ownsMap Try.prog 9 (plainElem Try.prog 3) w2.heap.size (i + 1) (D.put (.string m.f1.data.toList) (.lit (.int .i64 (c' + 1)))) := by
          obtain ⟨es, clock, h1, h2⟩ := hown2
          exact ⟨es, clock, by rw [hW]; exact h1, h2⟩
        obtain ⟨c3, hrun3, hat3, _⟩ := hoW.lookup_int (Maps.string_keyed Try.underlying9) Try.underlying81 Try.underlying3 (Try.zeroValue3 _) hkey
        have : c3 = c2 := (lit_inj (hat3.symm.trans (Maps.atKey_put_same hS.1 (by trivial) _ _))).trans hc2.symm
        rw [← this]
        exact hrun3
      have hq : Hid (∀ W : World, W.heap = w5.heap → W.cell? ⟨wr.heap.size, 0, none⟩ = some (.int .u64 m.f0) ∧ W.cell? ⟨wr.heap.size, 1, none⟩ = some (.string m.f1) ∧ W.cell? ⟨wr.heap.size, 2, none⟩ = some (.int .u64 m.f2) ∧ W.cell? ⟨w.heap.size, 1, none⟩ = some (.int .u64 now) ∧ W.cell? ⟨w.heap.size, 2, none⟩ = some (.int .u64 next) ∧ W.cell? ⟨w.heap.size + 1, 1, none⟩ = some (.slice (some ad) x.f1.length c) ∧
          (Instr.lookup 81 (.map (some w2.heap.size)) (.string m.f1) false).run Try.prog W = .ok (.int .i64 c2) W) := Lib.hid fun W hW => by
        obtain ⟨a0, a1, a2⟩ := box3 (W := W) (by rw [hW]; exact hK5)
        obtain ⟨_, b1, b2⟩ := box3 (W := W) (by rw [hW]; exact (hB5.out.block _ (blk_lt hK12)).trans hK12)
        have d1 : W.cell? ⟨w.heap.size + 1, 1, none⟩ = some (.slice (some ad) x.f1.length c) := (blk_cell (by rw [hW]; exact (hB5.out.block _ (blk_lt hK2)).trans hK2) 1).trans rfl
        exact ⟨a0, a1, a2, b1, b2, d1, hrl W hW⟩
      have hqp : Hid (∀ j : Nat, w2.cell? (ad.add (j * 3)) = some (.int .u64 y.f0) → ∀ W : World, W.heap = w5.heap → W.cell? (ad.add (j * 3)) = some (.int .u64 y.f0)) := Lib.hid fun j h W hW => by
        have h1 : W.cell? (ad.add (j * 3)) = w5.cell? (ad.add (j * 3)) := by simp only [World.cell?, hW]
        rw [h1]
        exact (Below.cell (p := ad.add (j * 3)) hB5.out (block_lt_of_cell h)).trans h
      have hE := Aside0.mk (below_drew (below_step hB2 hB5.out))
      have hE2 := Aside0.mk (below_drew hB5.out)
      clear hrl hg5 hK4 hK5 hB hadl
      cases hcn : ks.contains (txt m.f1) with
      | true =>
        have hc1 : c' = 1 := by rw [hc'.out, if_pos hcn]
        obtain rfl : c2 = 2 := by omega
        clear hc2
        have hf : Hid (boxB now next x = false) := Lib.hid (hno.out (by rw [hoki.out]; simp only [hcn]; rfl))
        go_wp2
        refine start_ (n := 49) (S := fun w' => w'.cell? ⟨wr.heap.size, 0, none⟩ = some (.int .u64 m.f0) ∧ w'.cell? ⟨wr.heap.size, 1, none⟩ = some (.string m.f1) ∧ w'.cell? ⟨wr.heap.size, 2, none⟩ = some (.int .u64 m.f2) ∧ w'.cell? ⟨w.heap.size, 1, none⟩ = some (.int .u64 now) ∧ w'.cell? ⟨w.heap.size, 2, none⟩ = some (.int .u64 next) ∧ w'.cell? ⟨w.heap.size + 1, 1, none⟩ = some (.slice (some ad) x.f1.length c) ∧ (Instr.lookup 81 (.map (some w2.heap.size)) (.string m.f1) false).run Try.prog w' = .ok (.int .i64 2) w') (ds := []) bHBoxR0 (by kernel_rfl) rfl rfl ⟨(hq.out w5.drew rfl).1, (hq.out w5.drew rfl).2.1, (hq.out w5.drew rfl).2.2.1, (hq.out w5.drew rfl).2.2.2.1, (hq.out w5.drew rfl).2.2.2.2.1, (hq.out w5.drew rfl).2.2.2.2.2.1, (hq.out w5.drew rfl).2.2.2.2.2.2⟩ (fun hHeld => ?_)
        refine p_ 0 (some 22) bHBoxR1 ?_
        refine p_ 1 (some 23) bHBoxR2 ?_
        refine t_ 2 (some 24) bHBoxR3 hHeld (hv := by rintro w' ⟨s0, s1, s2, s3, s4, s5, s6⟩; go_simp; with_reducible rfl) (h := ?_)
        refine t_ 3 (some 25) bHBoxR4 hHeld (hv := by rintro w' ⟨s0, s1, s2, s3, s4, s5, s6⟩; go_simp; with_reducible rfl) (h := ?_)
        refine p_ 4 (some 26) bHBoxR5 ?_
        refine p_ 5 (some 27) bHBoxR6 ?_
        refine u_ 6 (some 28) bHBoxR7 ?_
        refine u_ 7 (some 29) bHBoxR8 ?_
        refine u_ 8 (some 30) bHBoxR9 ?_
        refine u_ 9 (some 31) bHBoxR10 ?_
        refine p_ 10 (some 32) bHBoxR11 ?_
        refine p_ 11 (some 33) bHBoxR12 ?_
        refine u_ 12 (some 34) bHBoxR13 ?_
        refine u_ 13 (some 35) bHBoxR14 ?_
        refine u_ 14 (some 36) bHBoxR15 ?_
        refine u_ 15 (some 37) bHBoxR16 ?_
        refine u_ 16 (some 38) bHBoxR17 ?_
        refine p_ 17 (some 39) bHBoxR18 ?_
        refine p_ 18 (some 40) bHBoxR19 ?_
        refine u_ 19 (some 41) bHBoxR20 ?_
        refine u_ 20 (some 42) bHBoxR21 ?_
        refine u_ 21 (some 43) bHBoxR22 ?_
        refine u_ 22 (some 44) bHBoxR23 ?_
        refine u_ 23 (some 45) bHBoxR24 ?_
        refine u_ 24 (some 46) bHBoxR25 ?_
        refine u_ 25 (some 47) bHBoxR26 ?_
        refine u_ 26 (some 48) bHBoxR27 ?_
        refine u_ 27 (some 49) bHBoxR28 ?_
        refine u_ 28 (some 50) bHBoxR29 ?_
        refine u_ 29 (some 51) bHBoxR30 ?_
        refine u_ 30 (some 52) bHBoxR31 ?_
        refine u_ 31 (some 53) bHBoxR32 ?_
        refine u_ 32 (some 54) bHBoxR33 ?_
        refine p_ 33 (some 55) bHBoxR34 ?_
        refine p_ 34 (some 56) bHBoxR35 ?_
        refine u_ 35 (some 57) bHBoxR36 ?_
        refine u_ 36 (some 58) bHBoxR37 ?_
        refine u_ 37 (some 59) bHBoxR38 ?_
        refine u_ 38 (some 60) bHBoxR39 ?_
        refine u_ 39 (some 61) bHBoxR40 ?_
        refine p_ 40 (some 62) bHBoxR41 ?_
        refine p_ 41 (some 63) bHBoxR42 ?_
        refine u_ 42 (some 64) bHBoxR43 ?_
        refine u_ 43 (some 65) bHBoxR44 ?_
        refine u_ 44 (some 66) bHBoxR45 ?_
        refine u_ 45 (some 67) bHBoxR46 ?_
        refine u_ 46 (some 68) bHBoxR47 ?_
        refine u_ 47 (some 69) bHBoxR48 ?_
        refine p_ 48 (some 70) bHBoxR49 ?_
        refine done_ (by kernel_rfl) ?_
        go_wp2
        go_ret
        exact ⟨by rw [hf.out]; rfl, hE.out⟩
      | false =>
        have hc1 : c' = 0 := by rw [hc'.out, if_neg (by rw [hcn]; simp)]
        obtain rfl : c2 = 1 := by omega
        clear hc2
        by_cases hz : m.f1.size ≤ 1400
        · have e1 : decide (m.f1.size ≤ 1400) = true := decide_eq_true hz
          have e1i : decide ((1400 : Int) < (m.f1.size : Int)) = false := decide_eq_false (by omega)
          have e1n : decide (1400 < m.f1.size) = false := decide_eq_false (by omega)
          by_cases hn : m.f0 < next
          · have e2 : decide (m.f0 < next) = true := decide_eq_true hn
            have e2i : decide (next ≤ m.f0) = false := decide_eq_false (by omega)
            rcases Nat.eq_zero_or_pos i with h0 | h0
            · have e0 : decide (i = 0) = true := decide_eq_true h0
              have hi0 : decide ((0 : Int) < (i : Int)) = false := decide_eq_false (by omega)
              have hi1 : decide (0 < i) = false := decide_eq_false (by omega)
              replace h0 := Lib.hid h0
              by_cases hb : m.f2 ≤ now
              · have e4 : decide (m.f2 ≤ now) = true := decide_eq_true hb
                have e4i : decide (now < m.f2) = false := decide_eq_false (by omega)
                have hwr := Lib.hid (show IntKind.u64.wrap (now - m.f2) = now - m.f2 by rw [IntKind.wrap_u64]; omega)
                by_cases hg : now - m.f2 ≤ 50
                · have e5 : decide (now - m.f2 ≤ 50) = true := decide_eq_true hg
                  have e5i : decide (50 < now - m.f2) = false := decide_eq_false (by omega)
                  have e5w : decide (50 < IntKind.u64.wrap (now - m.f2)) = false := by rw [hwr.out]; exact e5i
                  have hok1 := Aside0.mk (fun j (hj : j < i + 1) => (show okM now next x.f1 j = true from by
                    by_cases e : j = i
                    · subst e; rw [hoki.out]; simp only [hcn, e1, e2, e0, Bool.true_or, e4, e5]; rfl
                    · exact hok.out j (by omega)))
                  have hS2 := Aside0.mk (seenS_put hS (txt m.f1) hcn)
                  rw [← hts.out] at hS2
                  go_wp2
                  refine start_ (n := 49) (S := fun w' => w'.cell? ⟨wr.heap.size, 0, none⟩ = some (.int .u64 m.f0) ∧ w'.cell? ⟨wr.heap.size, 1, none⟩ = some (.string m.f1) ∧ w'.cell? ⟨wr.heap.size, 2, none⟩ = some (.int .u64 m.f2) ∧ w'.cell? ⟨w.heap.size, 1, none⟩ = some (.int .u64 now) ∧ w'.cell? ⟨w.heap.size, 2, none⟩ = some (.int .u64 next) ∧ w'.cell? ⟨w.heap.size + 1, 1, none⟩ = some (.slice (some ad) x.f1.length c) ∧ (Instr.lookup 81 (.map (some w2.heap.size)) (.string m.f1) false).run Try.prog w' = .ok (.int .i64 1) w') (ds := []) bHBoxR0 (by kernel_rfl) rfl rfl ⟨(hq.out w5.drew rfl).1, (hq.out w5.drew rfl).2.1, (hq.out w5.drew rfl).2.2.1, (hq.out w5.drew rfl).2.2.2.1, (hq.out w5.drew rfl).2.2.2.2.1, (hq.out w5.drew rfl).2.2.2.2.2.1, (hq.out w5.drew rfl).2.2.2.2.2.2⟩ (fun hHeld => ?_)
                  refine p_ 0 (some 22) bHBoxR1 ?_
                  refine p_ 1 (some 23) bHBoxR2 ?_
                  refine t_ 2 (some 24) bHBoxR3 hHeld (hv := by rintro w' ⟨s0, s1, s2, s3, s4, s5, s6⟩; go_simp; with_reducible rfl) (h := ?_)
                  refine t_ 3 (some 25) bHBoxR4 hHeld (hv := by rintro w' ⟨s0, s1, s2, s3, s4, s5, s6⟩; go_simp; with_reducible rfl) (h := ?_)
                  refine p_ 4 (some 26) bHBoxR5 ?_
                  refine p_ 5 (some 27) bHBoxR6 ?_
                  refine p_ 6 (some 28) bHBoxR7 ?_
                  refine t_ 7 (some 29) bHBoxR8 hHeld (hv := by rintro w' ⟨s0, s1, s2, s3, s4, s5, s6⟩; go_simp; with_reducible rfl) (h := ?_)
                  refine p_ 8 (some 30) bHBoxR9 ?_
                  refine p_ 9 (some 31) bHBoxR10 ?_
                  refine p_ 10 (some 32) bHBoxR11 ?_
                  refine p_ 11 (some 33) bHBoxR12 ?_
                  refine p_ 12 (some 34) bHBoxR13 ?_
                  refine p_ 14 (some 36) bHBoxR50 ?_
                  refine t_ 13 (some 35) bHBoxR15 hHeld (hv := by rintro w' ⟨s0, s1, s2, s3, s4, s5, s6⟩; go_simp; with_reducible rfl) (h := ?_)
                  refine t_ 15 (some 37) bHBoxR16 hHeld (hv := by rintro w' ⟨s0, s1, s2, s3, s4, s5, s6⟩; go_simp; with_reducible rfl) (h := ?_)
                  refine p_ 16 (some 38) bHBoxR17 ?_
                  refine p_ 17 (some 39) bHBoxR18 ?_
                  refine p_ 18 (some 40) bHBoxR19 ?_
                  refine p_ 19 (some 41) bHBoxR20 ?_
                  refine p_ 20 (some 42) bHBoxR21 ?_
                  refine p_ 21 (some 43) bHBoxR22 ?_
                  refine u_ 22 (some 44) bHBoxR23 ?_
                  refine u_ 23 (some 45) bHBoxR24 ?_
                  refine u_ 24 (some 46) bHBoxR25 ?_
                  refine u_ 25 (some 47) bHBoxR26 ?_
                  refine u_ 26 (some 48) bHBoxR27 ?_
                  refine u_ 27 (some 49) bHBoxR28 ?_
                  refine u_ 28 (some 50) bHBoxR29 ?_
                  refine u_ 29 (some 51) bHBoxR30 ?_
                  refine u_ 30 (some 52) bHBoxR31 ?_
                  refine u_ 31 (some 53) bHBoxR32 ?_
                  refine p_ 32 (some 54) bHBoxR33 ?_
                  refine p_ 33 (some 55) bHBoxR34 ?_
                  refine p_ 34 (some 56) bHBoxR35 ?_
                  refine p_ 35 (some 57) bHBoxR36 ?_
                  refine p_ 37 (some 59) bHBoxR51 ?_
                  refine t_ 36 (some 58) bHBoxR38 hHeld (hv := by rintro w' ⟨s0, s1, s2, s3, s4, s5, s6⟩; go_simp; with_reducible rfl) (h := ?_)
                  refine t_ 38 (some 60) bHBoxR39 hHeld (hv := by rintro w' ⟨s0, s1, s2, s3, s4, s5, s6⟩; go_simp; with_reducible rfl) (h := ?_)
                  refine p_ 39 (some 61) bHBoxR40 ?_
                  refine p_ 40 (some 62) bHBoxR41 ?_
                  refine p_ 41 (some 63) bHBoxR42 ?_
                  refine p_ 42 (some 64) bHBoxR43 ?_
                  refine p_ 44 (some 66) bHBoxR52 ?_
                  refine t_ 43 (some 65) bHBoxR45 hHeld (hv := by rintro w' ⟨s0, s1, s2, s3, s4, s5, s6⟩; go_simp; with_reducible rfl) (h := ?_)
                  refine t_ 45 (some 67) bHBoxR46 hHeld (hv := by rintro w' ⟨s0, s1, s2, s3, s4, s5, s6⟩; go_simp; with_reducible rfl) (h := ?_)
                  refine p_ 46 (some 68) bHBoxR47 ?_
                  refine p_ 47 (some 69) bHBoxR48 ?_
                  refine p_ 48 (some 70) bHBoxR49 ?_
                  refine done_ (by kernel_rfl) ?_
                  go_wp2
                  go_roundw
                  case rel => exact ⟨i + 1, _, by omega, by go_num, hown2, by rw [hc1]; exact hS2.out, hok1.out, hE2.out⟩
                  case measure => simp [intOf]; omega
                · have e5 : decide (now - m.f2 ≤ 50) = false := decide_eq_false hg
                  have e5i : decide (50 < now - m.f2) = true := decide_eq_true (by omega)
                  have e5w : decide (50 < IntKind.u64.wrap (now - m.f2)) = true := by rw [hwr.out]; exact e5i
                  have hf : Hid (boxB now next x = false) := Lib.hid (hno.out (by rw [hoki.out]; simp only [hcn, e1, e2, e0, Bool.true_or, e4, e5]; rfl))
                  go_wp2
                  refine start_ (n := 49) (S := fun w' => w'.cell? ⟨wr.heap.size, 0, none⟩ = some (.int .u64 m.f0) ∧ w'.cell? ⟨wr.heap.size, 1, none⟩ = some (.string m.f1) ∧ w'.cell? ⟨wr.heap.size, 2, none⟩ = some (.int .u64 m.f2) ∧ w'.cell? ⟨w.heap.size, 1, none⟩ = some (.int .u64 now) ∧ w'.cell? ⟨w.heap.size, 2, none⟩ = some (.int .u64 next) ∧ w'.cell? ⟨w.heap.size + 1, 1, none⟩ = some (.slice (some ad) x.f1.length c) ∧ (Instr.lookup 81 (.map (some w2.heap.size)) (.string m.f1) false).run Try.prog w' = .ok (.int .i64 1) w') (ds := []) bHBoxR0 (by kernel_rfl) rfl rfl ⟨(hq.out w5.drew rfl).1, (hq.out w5.drew rfl).2.1, (hq.out w5.drew rfl).2.2.1, (hq.out w5.drew rfl).2.2.2.1, (hq.out w5.drew rfl).2.2.2.2.1, (hq.out w5.drew rfl).2.2.2.2.2.1, (hq.out w5.drew rfl).2.2.2.2.2.2⟩ (fun hHeld => ?_)
                  refine p_ 0 (some 22) bHBoxR1 ?_
                  refine p_ 1 (some 23) bHBoxR2 ?_
                  refine t_ 2 (some 24) bHBoxR3 hHeld (hv := by rintro w' ⟨s0, s1, s2, s3, s4, s5, s6⟩; go_simp; with_reducible rfl) (h := ?_)
                  refine t_ 3 (some 25) bHBoxR4 hHeld (hv := by rintro w' ⟨s0, s1, s2, s3, s4, s5, s6⟩; go_simp; with_reducible rfl) (h := ?_)
                  refine p_ 4 (some 26) bHBoxR5 ?_
                  refine p_ 5 (some 27) bHBoxR6 ?_
                  refine p_ 6 (some 28) bHBoxR7 ?_
                  refine t_ 7 (some 29) bHBoxR8 hHeld (hv := by rintro w' ⟨s0, s1, s2, s3, s4, s5, s6⟩; go_simp; with_reducible rfl) (h := ?_)
                  refine p_ 8 (some 30) bHBoxR9 ?_
                  refine p_ 9 (some 31) bHBoxR10 ?_
                  refine p_ 10 (some 32) bHBoxR11 ?_
                  refine p_ 11 (some 33) bHBoxR12 ?_
                  refine p_ 12 (some 34) bHBoxR13 ?_
                  refine p_ 14 (some 36) bHBoxR50 ?_
                  refine t_ 13 (some 35) bHBoxR15 hHeld (hv := by rintro w' ⟨s0, s1, s2, s3, s4, s5, s6⟩; go_simp; with_reducible rfl) (h := ?_)
                  refine t_ 15 (some 37) bHBoxR16 hHeld (hv := by rintro w' ⟨s0, s1, s2, s3, s4, s5, s6⟩; go_simp; with_reducible rfl) (h := ?_)
                  refine p_ 16 (some 38) bHBoxR17 ?_
                  refine p_ 17 (some 39) bHBoxR18 ?_
                  refine p_ 18 (some 40) bHBoxR19 ?_
                  refine p_ 19 (some 41) bHBoxR20 ?_
                  refine p_ 20 (some 42) bHBoxR21 ?_
                  refine p_ 21 (some 43) bHBoxR22 ?_
                  refine u_ 22 (some 44) bHBoxR23 ?_
                  refine u_ 23 (some 45) bHBoxR24 ?_
                  refine u_ 24 (some 46) bHBoxR25 ?_
                  refine u_ 25 (some 47) bHBoxR26 ?_
                  refine u_ 26 (some 48) bHBoxR27 ?_
                  refine u_ 27 (some 49) bHBoxR28 ?_
                  refine u_ 28 (some 50) bHBoxR29 ?_
                  refine u_ 29 (some 51) bHBoxR30 ?_
                  refine u_ 30 (some 52) bHBoxR31 ?_
                  refine u_ 31 (some 53) bHBoxR32 ?_
                  refine p_ 32 (some 54) bHBoxR33 ?_
                  refine p_ 33 (some 55) bHBoxR34 ?_
                  refine p_ 34 (some 56) bHBoxR35 ?_
                  refine p_ 35 (some 57) bHBoxR36 ?_
                  refine p_ 37 (some 59) bHBoxR51 ?_
                  refine t_ 36 (some 58) bHBoxR38 hHeld (hv := by rintro w' ⟨s0, s1, s2, s3, s4, s5, s6⟩; go_simp; with_reducible rfl) (h := ?_)
                  refine t_ 38 (some 60) bHBoxR39 hHeld (hv := by rintro w' ⟨s0, s1, s2, s3, s4, s5, s6⟩; go_simp; with_reducible rfl) (h := ?_)
                  refine p_ 39 (some 61) bHBoxR40 ?_
                  refine p_ 40 (some 62) bHBoxR41 ?_
                  refine p_ 41 (some 63) bHBoxR42 ?_
                  refine p_ 42 (some 64) bHBoxR43 ?_
                  refine p_ 44 (some 66) bHBoxR52 ?_
                  refine t_ 43 (some 65) bHBoxR45 hHeld (hv := by rintro w' ⟨s0, s1, s2, s3, s4, s5, s6⟩; go_simp; with_reducible rfl) (h := ?_)
                  refine t_ 45 (some 67) bHBoxR46 hHeld (hv := by rintro w' ⟨s0, s1, s2, s3, s4, s5, s6⟩; go_simp; with_reducible rfl) (h := ?_)
                  refine p_ 46 (some 68) bHBoxR47 ?_
                  refine p_ 47 (some 69) bHBoxR48 ?_
                  refine p_ 48 (some 70) bHBoxR49 ?_
                  refine done_ (by kernel_rfl) ?_
                  go_wp2
                  go_ret
                  exact ⟨by rw [hf.out]; rfl, hE.out⟩
              · have e4 : decide (m.f2 ≤ now) = false := decide_eq_false hb
                have e4i : decide (now < m.f2) = true := decide_eq_true (by omega)
                have hf : Hid (boxB now next x = false) := Lib.hid (hno.out (by rw [hoki.out]; simp only [hcn, e1, e2, e0, Bool.true_or, e4]; rfl))
                go_wp2
                refine start_ (n := 49) (S := fun w' => w'.cell? ⟨wr.heap.size, 0, none⟩ = some (.int .u64 m.f0) ∧ w'.cell? ⟨wr.heap.size, 1, none⟩ = some (.string m.f1) ∧ w'.cell? ⟨wr.heap.size, 2, none⟩ = some (.int .u64 m.f2) ∧ w'.cell? ⟨w.heap.size, 1, none⟩ = some (.int .u64 now) ∧ w'.cell? ⟨w.heap.size, 2, none⟩ = some (.int .u64 next) ∧ w'.cell? ⟨w.heap.size + 1, 1, none⟩ = some (.slice (some ad) x.f1.length c) ∧ (Instr.lookup 81 (.map (some w2.heap.size)) (.string m.f1) false).run Try.prog w' = .ok (.int .i64 1) w') (ds := []) bHBoxR0 (by kernel_rfl) rfl rfl ⟨(hq.out w5.drew rfl).1, (hq.out w5.drew rfl).2.1, (hq.out w5.drew rfl).2.2.1, (hq.out w5.drew rfl).2.2.2.1, (hq.out w5.drew rfl).2.2.2.2.1, (hq.out w5.drew rfl).2.2.2.2.2.1, (hq.out w5.drew rfl).2.2.2.2.2.2⟩ (fun hHeld => ?_)
                refine p_ 0 (some 22) bHBoxR1 ?_
                refine p_ 1 (some 23) bHBoxR2 ?_
                refine t_ 2 (some 24) bHBoxR3 hHeld (hv := by rintro w' ⟨s0, s1, s2, s3, s4, s5, s6⟩; go_simp; with_reducible rfl) (h := ?_)
                refine t_ 3 (some 25) bHBoxR4 hHeld (hv := by rintro w' ⟨s0, s1, s2, s3, s4, s5, s6⟩; go_simp; with_reducible rfl) (h := ?_)
                refine p_ 4 (some 26) bHBoxR5 ?_
                refine p_ 5 (some 27) bHBoxR6 ?_
                refine p_ 6 (some 28) bHBoxR7 ?_
                refine t_ 7 (some 29) bHBoxR8 hHeld (hv := by rintro w' ⟨s0, s1, s2, s3, s4, s5, s6⟩; go_simp; with_reducible rfl) (h := ?_)
                refine p_ 8 (some 30) bHBoxR9 ?_
                refine p_ 9 (some 31) bHBoxR10 ?_
                refine p_ 10 (some 32) bHBoxR11 ?_
                refine p_ 11 (some 33) bHBoxR12 ?_
                refine p_ 12 (some 34) bHBoxR13 ?_
                refine p_ 14 (some 36) bHBoxR50 ?_
                refine t_ 13 (some 35) bHBoxR15 hHeld (hv := by rintro w' ⟨s0, s1, s2, s3, s4, s5, s6⟩; go_simp; with_reducible rfl) (h := ?_)
                refine t_ 15 (some 37) bHBoxR16 hHeld (hv := by rintro w' ⟨s0, s1, s2, s3, s4, s5, s6⟩; go_simp; with_reducible rfl) (h := ?_)
                refine p_ 16 (some 38) bHBoxR17 ?_
                refine p_ 17 (some 39) bHBoxR18 ?_
                refine p_ 18 (some 40) bHBoxR19 ?_
                refine p_ 19 (some 41) bHBoxR20 ?_
                refine p_ 20 (some 42) bHBoxR21 ?_
                refine p_ 21 (some 43) bHBoxR22 ?_
                refine u_ 22 (some 44) bHBoxR23 ?_
                refine u_ 23 (some 45) bHBoxR24 ?_
                refine u_ 24 (some 46) bHBoxR25 ?_
                refine u_ 25 (some 47) bHBoxR26 ?_
                refine u_ 26 (some 48) bHBoxR27 ?_
                refine u_ 27 (some 49) bHBoxR28 ?_
                refine u_ 28 (some 50) bHBoxR29 ?_
                refine u_ 29 (some 51) bHBoxR30 ?_
                refine u_ 30 (some 52) bHBoxR31 ?_
                refine u_ 31 (some 53) bHBoxR32 ?_
                refine p_ 32 (some 54) bHBoxR33 ?_
                refine p_ 33 (some 55) bHBoxR34 ?_
                refine p_ 34 (some 56) bHBoxR35 ?_
                refine p_ 35 (some 57) bHBoxR36 ?_
                refine p_ 37 (some 59) bHBoxR51 ?_
                refine t_ 36 (some 58) bHBoxR38 hHeld (hv := by rintro w' ⟨s0, s1, s2, s3, s4, s5, s6⟩; go_simp; with_reducible rfl) (h := ?_)
                refine t_ 38 (some 60) bHBoxR39 hHeld (hv := by rintro w' ⟨s0, s1, s2, s3, s4, s5, s6⟩; go_simp; with_reducible rfl) (h := ?_)
                refine p_ 39 (some 61) bHBoxR40 ?_
                refine p_ 40 (some 62) bHBoxR41 ?_
                refine p_ 41 (some 63) bHBoxR42 ?_
                refine u_ 42 (some 64) bHBoxR43 ?_
                refine u_ 43 (some 65) bHBoxR44 ?_
                refine u_ 44 (some 66) bHBoxR45 ?_
                refine u_ 45 (some 67) bHBoxR46 ?_
                refine u_ 46 (some 68) bHBoxR47 ?_
                refine u_ 47 (some 69) bHBoxR48 ?_
                refine p_ 48 (some 70) bHBoxR49 ?_
                refine done_ (by kernel_rfl) ?_
                go_wp2
                go_ret
                exact ⟨by rw [hf.out]; rfl, hE.out⟩
            · have e0 : decide (i = 0) = false := decide_eq_false (by omega)
              have hi0 : decide ((0 : Int) < (i : Int)) = true := decide_eq_true (by omega)
              have hi1 : decide (0 < i) = true := decide_eq_true h0
              obtain ⟨j, hj, hpj⟩ := hprev.out h0
              replace hqp := Lib.hid (hqp.out j hpj)
              have hwi : wrap64 ((i : Int) - 1) = (j : Int) := (wrap_in' ((i : Int) - 1) (by omega) (by omega)).trans (by omega)
              have hj2 : (j : Int) < x.f1.length := by omega
              replace hj := Lib.hid hj
              clear hpj
              by_cases hp : y.f0 < m.f0
              · have e3 : decide (y.f0 < m.f0) = true := decide_eq_true hp
                have e3i : decide (m.f0 ≤ y.f0) = false := decide_eq_false (by omega)
                by_cases hb : m.f2 ≤ now
                · have e4 : decide (m.f2 ≤ now) = true := decide_eq_true hb
                  have e4i : decide (now < m.f2) = false := decide_eq_false (by omega)
                  have hwr := Lib.hid (show IntKind.u64.wrap (now - m.f2) = now - m.f2 by rw [IntKind.wrap_u64]; omega)
                  by_cases hg : now - m.f2 ≤ 50
                  · have e5 : decide (now - m.f2 ≤ 50) = true := decide_eq_true hg
                    have e5i : decide (50 < now - m.f2) = false := decide_eq_false (by omega)
                    have e5w : decide (50 < IntKind.u64.wrap (now - m.f2)) = false := by rw [hwr.out]; exact e5i
                    have hok1 := Aside0.mk (fun j (hj : j < i + 1) => (show okM now next x.f1 j = true from by
                      by_cases e : j = i
                      · subst e; rw [hoki.out]; simp only [hcn, e1, e2, e0, e3, Bool.false_or, e4, e5]; rfl
                      · exact hok.out j (by omega)))
                    have hS2 := Aside0.mk (seenS_put hS (txt m.f1) hcn)
                    rw [← hts.out] at hS2
                    go_wp2
                    refine start_ (n := 49) (S := fun w' => w'.cell? ⟨wr.heap.size, 0, none⟩ = some (.int .u64 m.f0) ∧ w'.cell? ⟨wr.heap.size, 1, none⟩ = some (.string m.f1) ∧ w'.cell? ⟨wr.heap.size, 2, none⟩ = some (.int .u64 m.f2) ∧ w'.cell? ⟨w.heap.size, 1, none⟩ = some (.int .u64 now) ∧ w'.cell? ⟨w.heap.size, 2, none⟩ = some (.int .u64 next) ∧ w'.cell? ⟨w.heap.size + 1, 1, none⟩ = some (.slice (some ad) x.f1.length c) ∧ (Instr.lookup 81 (.map (some w2.heap.size)) (.string m.f1) false).run Try.prog w' = .ok (.int .i64 1) w' ∧ w'.cell? (ad.add (j * 3)) = some (.int .u64 y.f0)) (ds := []) bHBoxR0 (by kernel_rfl) rfl rfl ⟨(hq.out w5.drew rfl).1, (hq.out w5.drew rfl).2.1, (hq.out w5.drew rfl).2.2.1, (hq.out w5.drew rfl).2.2.2.1, (hq.out w5.drew rfl).2.2.2.2.1, (hq.out w5.drew rfl).2.2.2.2.2.1, (hq.out w5.drew rfl).2.2.2.2.2.2, (hqp.out w5.drew rfl)⟩ (fun hHeld => ?_)
                    refine p_ 0 (some 22) bHBoxR1 ?_
                    refine p_ 1 (some 23) bHBoxR2 ?_
                    refine t_ 2 (some 24) bHBoxR3 hHeld (hv := by rintro w' ⟨s0, s1, s2, s3, s4, s5, s6, s7⟩; go_simp; with_reducible rfl) (h := ?_)
                    refine t_ 3 (some 25) bHBoxR4 hHeld (hv := by rintro w' ⟨s0, s1, s2, s3, s4, s5, s6, s7⟩; go_simp; with_reducible rfl) (h := ?_)
                    refine p_ 4 (some 26) bHBoxR5 ?_
                    refine p_ 5 (some 27) bHBoxR6 ?_
                    refine p_ 6 (some 28) bHBoxR7 ?_
                    refine t_ 7 (some 29) bHBoxR8 hHeld (hv := by rintro w' ⟨s0, s1, s2, s3, s4, s5, s6, s7⟩; go_simp; with_reducible rfl) (h := ?_)
                    refine p_ 8 (some 30) bHBoxR9 ?_
                    refine p_ 9 (some 31) bHBoxR10 ?_
                    refine p_ 10 (some 32) bHBoxR11 ?_
                    refine p_ 11 (some 33) bHBoxR12 ?_
                    refine p_ 12 (some 34) bHBoxR13 ?_
                    refine p_ 14 (some 36) bHBoxR50 ?_
                    refine t_ 13 (some 35) bHBoxR15 hHeld (hv := by rintro w' ⟨s0, s1, s2, s3, s4, s5, s6, s7⟩; go_simp; with_reducible rfl) (h := ?_)
                    refine t_ 15 (some 37) bHBoxR16 hHeld (hv := by rintro w' ⟨s0, s1, s2, s3, s4, s5, s6, s7⟩; go_simp; with_reducible rfl) (h := ?_)
                    refine p_ 16 (some 38) bHBoxR17 ?_
                    refine p_ 17 (some 39) bHBoxR18 ?_
                    refine p_ 18 (some 40) bHBoxR19 ?_
                    refine p_ 19 (some 41) bHBoxR20 ?_
                    refine p_ 20 (some 42) bHBoxR21 ?_
                    refine p_ 21 (some 43) bHBoxR22 ?_
                    refine p_ 22 (some 44) bHBoxR23 ?_
                    refine p_ 24 (some 46) bHBoxR53 ?_
                    refine p_ 25 (some 47) bHBoxR54 ?_
                    refine p_ 29 (some 51) bHBoxR55 ?_
                    refine t_ 23 (some 45) bHBoxR56 hHeld (hv := by rintro w' ⟨s0, s1, s2, s3, s4, s5, s6, s7⟩; go_simp; with_reducible rfl) (h := ?_)
                    refine p_ 26 (some 48) bHBoxR57 ?_
                    refine p_ 27 (some 49) bHBoxR58 ?_
                    refine t_ 28 (some 50) bHBoxR30 hHeld (hv := by rintro w' ⟨s0, s1, s2, s3, s4, s5, s6, s7⟩; go_simp; with_reducible rfl) (h := ?_)
                    refine t_ 30 (some 52) bHBoxR31 hHeld (hv := by rintro w' ⟨s0, s1, s2, s3, s4, s5, s6, s7⟩; go_simp; with_reducible rfl) (h := ?_)
                    refine p_ 31 (some 53) bHBoxR32 ?_
                    refine p_ 32 (some 54) bHBoxR33 ?_
                    refine p_ 33 (some 55) bHBoxR34 ?_
                    refine p_ 34 (some 56) bHBoxR35 ?_
                    refine p_ 35 (some 57) bHBoxR36 ?_
                    refine p_ 37 (some 59) bHBoxR51 ?_
                    refine t_ 36 (some 58) bHBoxR38 hHeld (hv := by rintro w' ⟨s0, s1, s2, s3, s4, s5, s6, s7⟩; go_simp; with_reducible rfl) (h := ?_)
                    refine t_ 38 (some 60) bHBoxR39 hHeld (hv := by rintro w' ⟨s0, s1, s2, s3, s4, s5, s6, s7⟩; go_simp; with_reducible rfl) (h := ?_)
                    refine p_ 39 (some 61) bHBoxR40 ?_
                    refine p_ 40 (some 62) bHBoxR41 ?_
                    refine p_ 41 (some 63) bHBoxR42 ?_
                    refine p_ 42 (some 64) bHBoxR43 ?_
                    refine p_ 44 (some 66) bHBoxR52 ?_
                    refine t_ 43 (some 65) bHBoxR45 hHeld (hv := by rintro w' ⟨s0, s1, s2, s3, s4, s5, s6, s7⟩; go_simp; with_reducible rfl) (h := ?_)
                    refine t_ 45 (some 67) bHBoxR46 hHeld (hv := by rintro w' ⟨s0, s1, s2, s3, s4, s5, s6, s7⟩; go_simp; with_reducible rfl) (h := ?_)
                    refine p_ 46 (some 68) bHBoxR47 ?_
                    refine p_ 47 (some 69) bHBoxR48 ?_
                    refine p_ 48 (some 70) bHBoxR49 ?_
                    refine done_ (by kernel_rfl) ?_
                    go_wp2
                    go_roundw
                    case rel => exact ⟨i + 1, _, by omega, by go_num, hown2, by rw [hc1]; exact hS2.out, hok1.out, hE2.out⟩
                    case measure => simp [intOf]; omega
                  · have e5 : decide (now - m.f2 ≤ 50) = false := decide_eq_false hg
                    have e5i : decide (50 < now - m.f2) = true := decide_eq_true (by omega)
                    have e5w : decide (50 < IntKind.u64.wrap (now - m.f2)) = true := by rw [hwr.out]; exact e5i
                    have hf : Hid (boxB now next x = false) := Lib.hid (hno.out (by rw [hoki.out]; simp only [hcn, e1, e2, e0, e3, Bool.false_or, e4, e5]; rfl))
                    go_wp2
                    refine start_ (n := 49) (S := fun w' => w'.cell? ⟨wr.heap.size, 0, none⟩ = some (.int .u64 m.f0) ∧ w'.cell? ⟨wr.heap.size, 1, none⟩ = some (.string m.f1) ∧ w'.cell? ⟨wr.heap.size, 2, none⟩ = some (.int .u64 m.f2) ∧ w'.cell? ⟨w.heap.size, 1, none⟩ = some (.int .u64 now) ∧ w'.cell? ⟨w.heap.size, 2, none⟩ = some (.int .u64 next) ∧ w'.cell? ⟨w.heap.size + 1, 1, none⟩ = some (.slice (some ad) x.f1.length c) ∧ (Instr.lookup 81 (.map (some w2.heap.size)) (.string m.f1) false).run Try.prog w' = .ok (.int .i64 1) w' ∧ w'.cell? (ad.add (j * 3)) = some (.int .u64 y.f0)) (ds := []) bHBoxR0 (by kernel_rfl) rfl rfl ⟨(hq.out w5.drew rfl).1, (hq.out w5.drew rfl).2.1, (hq.out w5.drew rfl).2.2.1, (hq.out w5.drew rfl).2.2.2.1, (hq.out w5.drew rfl).2.2.2.2.1, (hq.out w5.drew rfl).2.2.2.2.2.1, (hq.out w5.drew rfl).2.2.2.2.2.2, (hqp.out w5.drew rfl)⟩ (fun hHeld => ?_)
                    refine p_ 0 (some 22) bHBoxR1 ?_
                    refine p_ 1 (some 23) bHBoxR2 ?_
                    refine t_ 2 (some 24) bHBoxR3 hHeld (hv := by rintro w' ⟨s0, s1, s2, s3, s4, s5, s6, s7⟩; go_simp; with_reducible rfl) (h := ?_)
                    refine t_ 3 (some 25) bHBoxR4 hHeld (hv := by rintro w' ⟨s0, s1, s2, s3, s4, s5, s6, s7⟩; go_simp; with_reducible rfl) (h := ?_)
                    refine p_ 4 (some 26) bHBoxR5 ?_
                    refine p_ 5 (some 27) bHBoxR6 ?_
                    refine p_ 6 (some 28) bHBoxR7 ?_
                    refine t_ 7 (some 29) bHBoxR8 hHeld (hv := by rintro w' ⟨s0, s1, s2, s3, s4, s5, s6, s7⟩; go_simp; with_reducible rfl) (h := ?_)
                    refine p_ 8 (some 30) bHBoxR9 ?_
                    refine p_ 9 (some 31) bHBoxR10 ?_
                    refine p_ 10 (some 32) bHBoxR11 ?_
                    refine p_ 11 (some 33) bHBoxR12 ?_
                    refine p_ 12 (some 34) bHBoxR13 ?_
                    refine p_ 14 (some 36) bHBoxR50 ?_
                    refine t_ 13 (some 35) bHBoxR15 hHeld (hv := by rintro w' ⟨s0, s1, s2, s3, s4, s5, s6, s7⟩; go_simp; with_reducible rfl) (h := ?_)
                    refine t_ 15 (some 37) bHBoxR16 hHeld (hv := by rintro w' ⟨s0, s1, s2, s3, s4, s5, s6, s7⟩; go_simp; with_reducible rfl) (h := ?_)
                    refine p_ 16 (some 38) bHBoxR17 ?_
                    refine p_ 17 (some 39) bHBoxR18 ?_
                    refine p_ 18 (some 40) bHBoxR19 ?_
                    refine p_ 19 (some 41) bHBoxR20 ?_
                    refine p_ 20 (some 42) bHBoxR21 ?_
                    refine p_ 21 (some 43) bHBoxR22 ?_
                    refine p_ 22 (some 44) bHBoxR23 ?_
                    refine p_ 24 (some 46) bHBoxR53 ?_
                    refine p_ 25 (some 47) bHBoxR54 ?_
                    refine p_ 29 (some 51) bHBoxR55 ?_
                    refine t_ 23 (some 45) bHBoxR56 hHeld (hv := by rintro w' ⟨s0, s1, s2, s3, s4, s5, s6, s7⟩; go_simp; with_reducible rfl) (h := ?_)
                    refine p_ 26 (some 48) bHBoxR57 ?_
                    refine p_ 27 (some 49) bHBoxR58 ?_
                    refine t_ 28 (some 50) bHBoxR30 hHeld (hv := by rintro w' ⟨s0, s1, s2, s3, s4, s5, s6, s7⟩; go_simp; with_reducible rfl) (h := ?_)
                    refine t_ 30 (some 52) bHBoxR31 hHeld (hv := by rintro w' ⟨s0, s1, s2, s3, s4, s5, s6, s7⟩; go_simp; with_reducible rfl) (h := ?_)
                    refine p_ 31 (some 53) bHBoxR32 ?_
                    refine p_ 32 (some 54) bHBoxR33 ?_
                    refine p_ 33 (some 55) bHBoxR34 ?_
                    refine p_ 34 (some 56) bHBoxR35 ?_
                    refine p_ 35 (some 57) bHBoxR36 ?_
                    refine p_ 37 (some 59) bHBoxR51 ?_
                    refine t_ 36 (some 58) bHBoxR38 hHeld (hv := by rintro w' ⟨s0, s1, s2, s3, s4, s5, s6, s7⟩; go_simp; with_reducible rfl) (h := ?_)
                    refine t_ 38 (some 60) bHBoxR39 hHeld (hv := by rintro w' ⟨s0, s1, s2, s3, s4, s5, s6, s7⟩; go_simp; with_reducible rfl) (h := ?_)
                    refine p_ 39 (some 61) bHBoxR40 ?_
                    refine p_ 40 (some 62) bHBoxR41 ?_
                    refine p_ 41 (some 63) bHBoxR42 ?_
                    refine p_ 42 (some 64) bHBoxR43 ?_
                    refine p_ 44 (some 66) bHBoxR52 ?_
                    refine t_ 43 (some 65) bHBoxR45 hHeld (hv := by rintro w' ⟨s0, s1, s2, s3, s4, s5, s6, s7⟩; go_simp; with_reducible rfl) (h := ?_)
                    refine t_ 45 (some 67) bHBoxR46 hHeld (hv := by rintro w' ⟨s0, s1, s2, s3, s4, s5, s6, s7⟩; go_simp; with_reducible rfl) (h := ?_)
                    refine p_ 46 (some 68) bHBoxR47 ?_
                    refine p_ 47 (some 69) bHBoxR48 ?_
                    refine p_ 48 (some 70) bHBoxR49 ?_
                    refine done_ (by kernel_rfl) ?_
                    go_wp2
                    go_ret
                    exact ⟨by rw [hf.out]; rfl, hE.out⟩
                · have e4 : decide (m.f2 ≤ now) = false := decide_eq_false hb
                  have e4i : decide (now < m.f2) = true := decide_eq_true (by omega)
                  have hf : Hid (boxB now next x = false) := Lib.hid (hno.out (by rw [hoki.out]; simp only [hcn, e1, e2, e0, e3, Bool.false_or, e4]; rfl))
                  go_wp2
                  refine start_ (n := 49) (S := fun w' => w'.cell? ⟨wr.heap.size, 0, none⟩ = some (.int .u64 m.f0) ∧ w'.cell? ⟨wr.heap.size, 1, none⟩ = some (.string m.f1) ∧ w'.cell? ⟨wr.heap.size, 2, none⟩ = some (.int .u64 m.f2) ∧ w'.cell? ⟨w.heap.size, 1, none⟩ = some (.int .u64 now) ∧ w'.cell? ⟨w.heap.size, 2, none⟩ = some (.int .u64 next) ∧ w'.cell? ⟨w.heap.size + 1, 1, none⟩ = some (.slice (some ad) x.f1.length c) ∧ (Instr.lookup 81 (.map (some w2.heap.size)) (.string m.f1) false).run Try.prog w' = .ok (.int .i64 1) w' ∧ w'.cell? (ad.add (j * 3)) = some (.int .u64 y.f0)) (ds := []) bHBoxR0 (by kernel_rfl) rfl rfl ⟨(hq.out w5.drew rfl).1, (hq.out w5.drew rfl).2.1, (hq.out w5.drew rfl).2.2.1, (hq.out w5.drew rfl).2.2.2.1, (hq.out w5.drew rfl).2.2.2.2.1, (hq.out w5.drew rfl).2.2.2.2.2.1, (hq.out w5.drew rfl).2.2.2.2.2.2, (hqp.out w5.drew rfl)⟩ (fun hHeld => ?_)
                  refine p_ 0 (some 22) bHBoxR1 ?_
                  refine p_ 1 (some 23) bHBoxR2 ?_
                  refine t_ 2 (some 24) bHBoxR3 hHeld (hv := by rintro w' ⟨s0, s1, s2, s3, s4, s5, s6, s7⟩; go_simp; with_reducible rfl) (h := ?_)
                  refine t_ 3 (some 25) bHBoxR4 hHeld (hv := by rintro w' ⟨s0, s1, s2, s3, s4, s5, s6, s7⟩; go_simp; with_reducible rfl) (h := ?_)
                  refine p_ 4 (some 26) bHBoxR5 ?_
                  refine p_ 5 (some 27) bHBoxR6 ?_
                  refine p_ 6 (some 28) bHBoxR7 ?_
                  refine t_ 7 (some 29) bHBoxR8 hHeld (hv := by rintro w' ⟨s0, s1, s2, s3, s4, s5, s6, s7⟩; go_simp; with_reducible rfl) (h := ?_)
                  refine p_ 8 (some 30) bHBoxR9 ?_
                  refine p_ 9 (some 31) bHBoxR10 ?_
                  refine p_ 10 (some 32) bHBoxR11 ?_
                  refine p_ 11 (some 33) bHBoxR12 ?_
                  refine p_ 12 (some 34) bHBoxR13 ?_
                  refine p_ 14 (some 36) bHBoxR50 ?_
                  refine t_ 13 (some 35) bHBoxR15 hHeld (hv := by rintro w' ⟨s0, s1, s2, s3, s4, s5, s6, s7⟩; go_simp; with_reducible rfl) (h := ?_)
                  refine t_ 15 (some 37) bHBoxR16 hHeld (hv := by rintro w' ⟨s0, s1, s2, s3, s4, s5, s6, s7⟩; go_simp; with_reducible rfl) (h := ?_)
                  refine p_ 16 (some 38) bHBoxR17 ?_
                  refine p_ 17 (some 39) bHBoxR18 ?_
                  refine p_ 18 (some 40) bHBoxR19 ?_
                  refine p_ 19 (some 41) bHBoxR20 ?_
                  refine p_ 20 (some 42) bHBoxR21 ?_
                  refine p_ 21 (some 43) bHBoxR22 ?_
                  refine p_ 22 (some 44) bHBoxR23 ?_
                  refine p_ 24 (some 46) bHBoxR53 ?_
                  refine p_ 25 (some 47) bHBoxR54 ?_
                  refine p_ 29 (some 51) bHBoxR55 ?_
                  refine t_ 23 (some 45) bHBoxR56 hHeld (hv := by rintro w' ⟨s0, s1, s2, s3, s4, s5, s6, s7⟩; go_simp; with_reducible rfl) (h := ?_)
                  refine p_ 26 (some 48) bHBoxR57 ?_
                  refine p_ 27 (some 49) bHBoxR58 ?_
                  refine t_ 28 (some 50) bHBoxR30 hHeld (hv := by rintro w' ⟨s0, s1, s2, s3, s4, s5, s6, s7⟩; go_simp; with_reducible rfl) (h := ?_)
                  refine t_ 30 (some 52) bHBoxR31 hHeld (hv := by rintro w' ⟨s0, s1, s2, s3, s4, s5, s6, s7⟩; go_simp; with_reducible rfl) (h := ?_)
                  refine p_ 31 (some 53) bHBoxR32 ?_
                  refine p_ 32 (some 54) bHBoxR33 ?_
                  refine p_ 33 (some 55) bHBoxR34 ?_
                  refine p_ 34 (some 56) bHBoxR35 ?_
                  refine p_ 35 (some 57) bHBoxR36 ?_
                  refine p_ 37 (some 59) bHBoxR51 ?_
                  refine t_ 36 (some 58) bHBoxR38 hHeld (hv := by rintro w' ⟨s0, s1, s2, s3, s4, s5, s6, s7⟩; go_simp; with_reducible rfl) (h := ?_)
                  refine t_ 38 (some 60) bHBoxR39 hHeld (hv := by rintro w' ⟨s0, s1, s2, s3, s4, s5, s6, s7⟩; go_simp; with_reducible rfl) (h := ?_)
                  refine p_ 39 (some 61) bHBoxR40 ?_
                  refine p_ 40 (some 62) bHBoxR41 ?_
                  refine p_ 41 (some 63) bHBoxR42 ?_
                  refine u_ 42 (some 64) bHBoxR43 ?_
                  refine u_ 43 (some 65) bHBoxR44 ?_
                  refine u_ 44 (some 66) bHBoxR45 ?_
                  refine u_ 45 (some 67) bHBoxR46 ?_
                  refine u_ 46 (some 68) bHBoxR47 ?_
                  refine u_ 47 (some 69) bHBoxR48 ?_
                  refine p_ 48 (some 70) bHBoxR49 ?_
                  refine done_ (by kernel_rfl) ?_
                  go_wp2
                  go_ret
                  exact ⟨by rw [hf.out]; rfl, hE.out⟩
              · have e3 : decide (y.f0 < m.f0) = false := decide_eq_false hp
                have e3i : decide (m.f0 ≤ y.f0) = true := decide_eq_true (by omega)
                have hf : Hid (boxB now next x = false) := Lib.hid (hno.out (by rw [hoki.out]; simp only [hcn, e1, e2, e0, e3, Bool.false_or]; rfl))
                go_wp2
                refine start_ (n := 49) (S := fun w' => w'.cell? ⟨wr.heap.size, 0, none⟩ = some (.int .u64 m.f0) ∧ w'.cell? ⟨wr.heap.size, 1, none⟩ = some (.string m.f1) ∧ w'.cell? ⟨wr.heap.size, 2, none⟩ = some (.int .u64 m.f2) ∧ w'.cell? ⟨w.heap.size, 1, none⟩ = some (.int .u64 now) ∧ w'.cell? ⟨w.heap.size, 2, none⟩ = some (.int .u64 next) ∧ w'.cell? ⟨w.heap.size + 1, 1, none⟩ = some (.slice (some ad) x.f1.length c) ∧ (Instr.lookup 81 (.map (some w2.heap.size)) (.string m.f1) false).run Try.prog w' = .ok (.int .i64 1) w' ∧ w'.cell? (ad.add (j * 3)) = some (.int .u64 y.f0)) (ds := []) bHBoxR0 (by kernel_rfl) rfl rfl ⟨(hq.out w5.drew rfl).1, (hq.out w5.drew rfl).2.1, (hq.out w5.drew rfl).2.2.1, (hq.out w5.drew rfl).2.2.2.1, (hq.out w5.drew rfl).2.2.2.2.1, (hq.out w5.drew rfl).2.2.2.2.2.1, (hq.out w5.drew rfl).2.2.2.2.2.2, (hqp.out w5.drew rfl)⟩ (fun hHeld => ?_)
                refine p_ 0 (some 22) bHBoxR1 ?_
                refine p_ 1 (some 23) bHBoxR2 ?_
                refine t_ 2 (some 24) bHBoxR3 hHeld (hv := by rintro w' ⟨s0, s1, s2, s3, s4, s5, s6, s7⟩; go_simp; with_reducible rfl) (h := ?_)
                refine t_ 3 (some 25) bHBoxR4 hHeld (hv := by rintro w' ⟨s0, s1, s2, s3, s4, s5, s6, s7⟩; go_simp; with_reducible rfl) (h := ?_)
                refine p_ 4 (some 26) bHBoxR5 ?_
                refine p_ 5 (some 27) bHBoxR6 ?_
                refine p_ 6 (some 28) bHBoxR7 ?_
                refine t_ 7 (some 29) bHBoxR8 hHeld (hv := by rintro w' ⟨s0, s1, s2, s3, s4, s5, s6, s7⟩; go_simp; with_reducible rfl) (h := ?_)
                refine p_ 8 (some 30) bHBoxR9 ?_
                refine p_ 9 (some 31) bHBoxR10 ?_
                refine p_ 10 (some 32) bHBoxR11 ?_
                refine p_ 11 (some 33) bHBoxR12 ?_
                refine p_ 12 (some 34) bHBoxR13 ?_
                refine p_ 14 (some 36) bHBoxR50 ?_
                refine t_ 13 (some 35) bHBoxR15 hHeld (hv := by rintro w' ⟨s0, s1, s2, s3, s4, s5, s6, s7⟩; go_simp; with_reducible rfl) (h := ?_)
                refine t_ 15 (some 37) bHBoxR16 hHeld (hv := by rintro w' ⟨s0, s1, s2, s3, s4, s5, s6, s7⟩; go_simp; with_reducible rfl) (h := ?_)
                refine p_ 16 (some 38) bHBoxR17 ?_
                refine p_ 17 (some 39) bHBoxR18 ?_
                refine p_ 18 (some 40) bHBoxR19 ?_
                refine p_ 19 (some 41) bHBoxR20 ?_
                refine p_ 20 (some 42) bHBoxR21 ?_
                refine p_ 21 (some 43) bHBoxR22 ?_
                refine p_ 22 (some 44) bHBoxR23 ?_
                refine p_ 24 (some 46) bHBoxR53 ?_
                refine p_ 25 (some 47) bHBoxR54 ?_
                refine p_ 29 (some 51) bHBoxR55 ?_
                refine t_ 23 (some 45) bHBoxR56 hHeld (hv := by rintro w' ⟨s0, s1, s2, s3, s4, s5, s6, s7⟩; go_simp; with_reducible rfl) (h := ?_)
                refine p_ 26 (some 48) bHBoxR57 ?_
                refine p_ 27 (some 49) bHBoxR58 ?_
                refine t_ 28 (some 50) bHBoxR30 hHeld (hv := by rintro w' ⟨s0, s1, s2, s3, s4, s5, s6, s7⟩; go_simp; with_reducible rfl) (h := ?_)
                refine t_ 30 (some 52) bHBoxR31 hHeld (hv := by rintro w' ⟨s0, s1, s2, s3, s4, s5, s6, s7⟩; go_simp; with_reducible rfl) (h := ?_)
                refine p_ 31 (some 53) bHBoxR32 ?_
                refine p_ 32 (some 54) bHBoxR33 ?_
                refine p_ 33 (some 55) bHBoxR34 ?_
                refine p_ 34 (some 56) bHBoxR35 ?_
                refine u_ 35 (some 57) bHBoxR36 ?_
                refine u_ 36 (some 58) bHBoxR37 ?_
                refine u_ 37 (some 59) bHBoxR38 ?_
                refine u_ 38 (some 60) bHBoxR39 ?_
                refine u_ 39 (some 61) bHBoxR40 ?_
                refine p_ 40 (some 62) bHBoxR41 ?_
                refine p_ 41 (some 63) bHBoxR42 ?_
                refine u_ 42 (some 64) bHBoxR43 ?_
                refine u_ 43 (some 65) bHBoxR44 ?_
                refine u_ 44 (some 66) bHBoxR45 ?_
                refine u_ 45 (some 67) bHBoxR46 ?_
                refine u_ 46 (some 68) bHBoxR47 ?_
                refine u_ 47 (some 69) bHBoxR48 ?_
                refine p_ 48 (some 70) bHBoxR49 ?_
                refine done_ (by kernel_rfl) ?_
                go_wp2
                go_ret
                exact ⟨by rw [hf.out]; rfl, hE.out⟩
          · have e2 : decide (m.f0 < next) = false := decide_eq_false hn
            have e2i : decide (next ≤ m.f0) = true := decide_eq_true (by omega)
            have hf : Hid (boxB now next x = false) := Lib.hid (hno.out (by rw [hoki.out]; simp only [hcn, e1, e2]; rfl))
            go_wp2
            refine start_ (n := 49) (S := fun w' => w'.cell? ⟨wr.heap.size, 0, none⟩ = some (.int .u64 m.f0) ∧ w'.cell? ⟨wr.heap.size, 1, none⟩ = some (.string m.f1) ∧ w'.cell? ⟨wr.heap.size, 2, none⟩ = some (.int .u64 m.f2) ∧ w'.cell? ⟨w.heap.size, 1, none⟩ = some (.int .u64 now) ∧ w'.cell? ⟨w.heap.size, 2, none⟩ = some (.int .u64 next) ∧ w'.cell? ⟨w.heap.size + 1, 1, none⟩ = some (.slice (some ad) x.f1.length c) ∧ (Instr.lookup 81 (.map (some w2.heap.size)) (.string m.f1) false).run Try.prog w' = .ok (.int .i64 1) w') (ds := []) bHBoxR0 (by kernel_rfl) rfl rfl ⟨(hq.out w5.drew rfl).1, (hq.out w5.drew rfl).2.1, (hq.out w5.drew rfl).2.2.1, (hq.out w5.drew rfl).2.2.2.1, (hq.out w5.drew rfl).2.2.2.2.1, (hq.out w5.drew rfl).2.2.2.2.2.1, (hq.out w5.drew rfl).2.2.2.2.2.2⟩ (fun hHeld => ?_)
            refine p_ 0 (some 22) bHBoxR1 ?_
            refine p_ 1 (some 23) bHBoxR2 ?_
            refine t_ 2 (some 24) bHBoxR3 hHeld (hv := by rintro w' ⟨s0, s1, s2, s3, s4, s5, s6⟩; go_simp; with_reducible rfl) (h := ?_)
            refine t_ 3 (some 25) bHBoxR4 hHeld (hv := by rintro w' ⟨s0, s1, s2, s3, s4, s5, s6⟩; go_simp; with_reducible rfl) (h := ?_)
            refine p_ 4 (some 26) bHBoxR5 ?_
            refine p_ 5 (some 27) bHBoxR6 ?_
            refine p_ 6 (some 28) bHBoxR7 ?_
            refine t_ 7 (some 29) bHBoxR8 hHeld (hv := by rintro w' ⟨s0, s1, s2, s3, s4, s5, s6⟩; go_simp; with_reducible rfl) (h := ?_)
            refine p_ 8 (some 30) bHBoxR9 ?_
            refine p_ 9 (some 31) bHBoxR10 ?_
            refine p_ 10 (some 32) bHBoxR11 ?_
            refine p_ 11 (some 33) bHBoxR12 ?_
            refine p_ 12 (some 34) bHBoxR13 ?_
            refine p_ 14 (some 36) bHBoxR50 ?_
            refine t_ 13 (some 35) bHBoxR15 hHeld (hv := by rintro w' ⟨s0, s1, s2, s3, s4, s5, s6⟩; go_simp; with_reducible rfl) (h := ?_)
            refine t_ 15 (some 37) bHBoxR16 hHeld (hv := by rintro w' ⟨s0, s1, s2, s3, s4, s5, s6⟩; go_simp; with_reducible rfl) (h := ?_)
            refine p_ 16 (some 38) bHBoxR17 ?_
            refine p_ 17 (some 39) bHBoxR18 ?_
            refine p_ 18 (some 40) bHBoxR19 ?_
            refine u_ 19 (some 41) bHBoxR20 ?_
            refine u_ 20 (some 42) bHBoxR21 ?_
            refine u_ 21 (some 43) bHBoxR22 ?_
            refine u_ 22 (some 44) bHBoxR23 ?_
            refine u_ 23 (some 45) bHBoxR24 ?_
            refine u_ 24 (some 46) bHBoxR25 ?_
            refine u_ 25 (some 47) bHBoxR26 ?_
            refine u_ 26 (some 48) bHBoxR27 ?_
            refine u_ 27 (some 49) bHBoxR28 ?_
            refine u_ 28 (some 50) bHBoxR29 ?_
            refine u_ 29 (some 51) bHBoxR30 ?_
            refine u_ 30 (some 52) bHBoxR31 ?_
            refine u_ 31 (some 53) bHBoxR32 ?_
            refine u_ 32 (some 54) bHBoxR33 ?_
            refine p_ 33 (some 55) bHBoxR34 ?_
            refine p_ 34 (some 56) bHBoxR35 ?_
            refine u_ 35 (some 57) bHBoxR36 ?_
            refine u_ 36 (some 58) bHBoxR37 ?_
            refine u_ 37 (some 59) bHBoxR38 ?_
            refine u_ 38 (some 60) bHBoxR39 ?_
            refine u_ 39 (some 61) bHBoxR40 ?_
            refine p_ 40 (some 62) bHBoxR41 ?_
            refine p_ 41 (some 63) bHBoxR42 ?_
            refine u_ 42 (some 64) bHBoxR43 ?_
            refine u_ 43 (some 65) bHBoxR44 ?_
            refine u_ 44 (some 66) bHBoxR45 ?_
            refine u_ 45 (some 67) bHBoxR46 ?_
            refine u_ 46 (some 68) bHBoxR47 ?_
            refine u_ 47 (some 69) bHBoxR48 ?_
            refine p_ 48 (some 70) bHBoxR49 ?_
            refine done_ (by kernel_rfl) ?_
            go_wp2
            go_ret
            exact ⟨by rw [hf.out]; rfl, hE.out⟩
        · have e1 : decide (m.f1.size ≤ 1400) = false := decide_eq_false hz
          have e1i : decide ((1400 : Int) < (m.f1.size : Int)) = true := decide_eq_true (by omega)
          have e1n : decide (1400 < m.f1.size) = true := decide_eq_true (by omega)
          have hf : Hid (boxB now next x = false) := Lib.hid (hno.out (by rw [hoki.out]; simp only [hcn, e1]; rfl))
          go_wp2
          refine start_ (n := 49) (S := fun w' => w'.cell? ⟨wr.heap.size, 0, none⟩ = some (.int .u64 m.f0) ∧ w'.cell? ⟨wr.heap.size, 1, none⟩ = some (.string m.f1) ∧ w'.cell? ⟨wr.heap.size, 2, none⟩ = some (.int .u64 m.f2) ∧ w'.cell? ⟨w.heap.size, 1, none⟩ = some (.int .u64 now) ∧ w'.cell? ⟨w.heap.size, 2, none⟩ = some (.int .u64 next) ∧ w'.cell? ⟨w.heap.size + 1, 1, none⟩ = some (.slice (some ad) x.f1.length c) ∧ (Instr.lookup 81 (.map (some w2.heap.size)) (.string m.f1) false).run Try.prog w' = .ok (.int .i64 1) w') (ds := []) bHBoxR0 (by kernel_rfl) rfl rfl ⟨(hq.out w5.drew rfl).1, (hq.out w5.drew rfl).2.1, (hq.out w5.drew rfl).2.2.1, (hq.out w5.drew rfl).2.2.2.1, (hq.out w5.drew rfl).2.2.2.2.1, (hq.out w5.drew rfl).2.2.2.2.2.1, (hq.out w5.drew rfl).2.2.2.2.2.2⟩ (fun hHeld => ?_)
          refine p_ 0 (some 22) bHBoxR1 ?_
          refine p_ 1 (some 23) bHBoxR2 ?_
          refine t_ 2 (some 24) bHBoxR3 hHeld (hv := by rintro w' ⟨s0, s1, s2, s3, s4, s5, s6⟩; go_simp; with_reducible rfl) (h := ?_)
          refine t_ 3 (some 25) bHBoxR4 hHeld (hv := by rintro w' ⟨s0, s1, s2, s3, s4, s5, s6⟩; go_simp; with_reducible rfl) (h := ?_)
          refine p_ 4 (some 26) bHBoxR5 ?_
          refine p_ 5 (some 27) bHBoxR6 ?_
          refine p_ 6 (some 28) bHBoxR7 ?_
          refine t_ 7 (some 29) bHBoxR8 hHeld (hv := by rintro w' ⟨s0, s1, s2, s3, s4, s5, s6⟩; go_simp; with_reducible rfl) (h := ?_)
          refine p_ 8 (some 30) bHBoxR9 ?_
          refine p_ 9 (some 31) bHBoxR10 ?_
          refine p_ 10 (some 32) bHBoxR11 ?_
          refine p_ 11 (some 33) bHBoxR12 ?_
          refine u_ 12 (some 34) bHBoxR13 ?_
          refine u_ 13 (some 35) bHBoxR14 ?_
          refine u_ 14 (some 36) bHBoxR15 ?_
          refine u_ 15 (some 37) bHBoxR16 ?_
          refine u_ 16 (some 38) bHBoxR17 ?_
          refine p_ 17 (some 39) bHBoxR18 ?_
          refine p_ 18 (some 40) bHBoxR19 ?_
          refine u_ 19 (some 41) bHBoxR20 ?_
          refine u_ 20 (some 42) bHBoxR21 ?_
          refine u_ 21 (some 43) bHBoxR22 ?_
          refine u_ 22 (some 44) bHBoxR23 ?_
          refine u_ 23 (some 45) bHBoxR24 ?_
          refine u_ 24 (some 46) bHBoxR25 ?_
          refine u_ 25 (some 47) bHBoxR26 ?_
          refine u_ 26 (some 48) bHBoxR27 ?_
          refine u_ 27 (some 49) bHBoxR28 ?_
          refine u_ 28 (some 50) bHBoxR29 ?_
          refine u_ 29 (some 51) bHBoxR30 ?_
          refine u_ 30 (some 52) bHBoxR31 ?_
          refine u_ 31 (some 53) bHBoxR32 ?_
          refine u_ 32 (some 54) bHBoxR33 ?_
          refine p_ 33 (some 55) bHBoxR34 ?_
          refine p_ 34 (some 56) bHBoxR35 ?_
          refine u_ 35 (some 57) bHBoxR36 ?_
          refine u_ 36 (some 58) bHBoxR37 ?_
          refine u_ 37 (some 59) bHBoxR38 ?_
          refine u_ 38 (some 60) bHBoxR39 ?_
          refine u_ 39 (some 61) bHBoxR40 ?_
          refine p_ 40 (some 62) bHBoxR41 ?_
          refine p_ 41 (some 63) bHBoxR42 ?_
          refine u_ 42 (some 64) bHBoxR43 ?_
          refine u_ 43 (some 65) bHBoxR44 ?_
          refine u_ 44 (some 66) bHBoxR45 ?_
          refine u_ 45 (some 67) bHBoxR46 ?_
          refine u_ 46 (some 68) bHBoxR47 ?_
          refine u_ 47 (some 69) bHBoxR48 ?_
          refine p_ 48 (some 70) bHBoxR49 ?_
          refine done_ (by kernel_rfl) ?_
          go_wp2
          go_ret
          exact ⟨by rw [hf.out]; rfl, hE.out⟩
    · obtain rfl : i = x.f1.length := by omega
      have hyes := boxB_yes hok
      have zb : wr.cell? ⟨w.heap.size + 1, 1, none⟩ = some (.slice A x.f1.length c) := (Below.cell (p := ⟨w.heap.size + 1, 1, none⟩) hB (blk_lt hK2)).trans z1
      have hE := Aside0.mk (below_step hB2 hB)
      by_cases h1 : 1 ≤ x.f1.length
      · have e1 : decide ((1 : Int) ≤ (x.f1.length : Int)) = true := decide_eq_true (by omega)
        have e1p : (1 : Int) ≤ (x.f1.length : Int) := by omega
        rw [decide_eq_true h1, Bool.true_and] at hyes
        have hfin : boxB now next x = decide ((x.f1.length : Int) ≤ 16) := by rw [hyes]; exact decide_eq_decide.2 (by omega)
        replace hfin := Lib.hid hfin
        clear hyes h1
        go_wp2
        go_ret
        exact ⟨by rw [hfin.out]; rfl, hE.out⟩
      · have e1p : ¬ ((1 : Int) ≤ (x.f1.length : Int)) := by omega
        have e1 : decide ((1 : Int) ≤ (x.f1.length : Int)) = false := decide_eq_false e1p
        rw [decide_eq_false h1, Bool.false_and] at hyes
        replace hyes := Lib.hid hyes
        go_wp2
        go_ret
        exact ⟨by rw [hyes.out]; rfl, hE.out⟩
end Go.Proofs.Ytbmfcikjhnnnbaa.Q
