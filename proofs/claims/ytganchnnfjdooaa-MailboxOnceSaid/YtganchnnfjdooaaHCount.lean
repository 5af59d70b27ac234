/- mailbox.Count answers how many parcels of a list are a user's.
   Conditions: the list is read as parcels. -/
import Derived.Test.YtganchnnfjdooaaQx0
import Derived.Handy
import Derived.Lib.Hide
namespace Go.Proofs.Ytganchnnfjdooaa.Q
open Go.RowKit Go.Proofs.YtganchnnfjdooaaW.PrintWords Go.Proofs.YtganchnnfjdooaaW.PrintLast Go.Proofs.YtganchnnfjdooaaW.PrintMore
set_option linter.unusedVariables false
set_option linter.unusedSimpArgs false

/-- A parcel as a value. -/
def pv (p : S27) : Value := .agg #[.int .u64 p.f0, .int .u64 p.f1, .string p.f2, .int .i64 p.f3, .int .u64 p.f4]
theorem has_calls (u : Int) (p : S27) (w : World) :
    Calls Try.prog 18 #[.int .u64 u, pv p] w fun e w' => e = .returned (.bool (p.f1 == u)) ∧ Below w.heap.size w w' := by
  unfold pv
  go_enter Try.func18, Try.ntmps18
  go_wp2
  go_ret
  exact ⟨rfl, below_alloc (Below.refl _ _) _⟩
/-- How many of the first parcels are a user's. -/
def countI (l : List S27) (u : Int) (k : Nat) : Nat := (l.take k).countP fun p => p.f1 == u
theorem countI_le (l : List S27) (u : Int) (k : Nat) : (countI l u k : Int) ≤ k := by
  unfold countI
  have h1 := List.countP_le_length (p := fun p : S27 => p.f1 == u) (l := l.take k)
  have h2 := List.length_take_le k l
  omega
theorem countI_succ (l : List S27) (u : Int) (i : Int) (h0 : 0 ≤ i) (h1 : i < l.length) : countI l u (i + 1).toNat = countI l u i.toNat + if (rd_T27 l i).f1 == u then 1 else 0 := by
  obtain ⟨n, rfl⟩ := Int.eq_ofNat_of_zero_le h0
  have hn : n < l.length := by omega
  unfold countI
  rw [show ((n : Int) + 1).toNat = n + 1 by omega, show ((n : Int)).toNat = n by omega, List.take_succ_eq_append_getElem hn, List.countP_append]
  simp only [List.countP_singleton, rd_T27, Int.toNat_natCast, List.getD_eq_getElem?_getD, List.getElem?_eq_getElem hn, Option.getD_some]
def mailbox_Count.f (l0 : List S27) (a1 : Int) : Option Int := if l0.length ≤ 9223372036854775807 then some (l0.countP fun p => p.f1 == a1 : Nat) else none
set_option maxHeartbeats 1000000 in
set_option maxRecDepth 100000 in
theorem mailbox_Count.calls (A0 : Option Addr) (c0 : Nat) (l0 : List (S27)) (a1 : Int) (r : Int) (w : World) (hr0 : Kd.C k27 w A0 l0.length l0) (hc0 : l0.length ≤ c0) (h : mailbox_Count.f l0 a1 = some r) :
    Calls Try.prog 7 #[.slice A0 l0.length c0, .int .u64 a1] w fun e w' => e = .returned (.int .i64 r) ∧ Below w.heap.size w w' := by
  unfold mailbox_Count.f at h
  split at h
  case isFalse => cases h
  case isTrue hlen =>
    obtain rfl := Option.some.inj h
    clear h
    have hfin : countI l0 a1 l0.length = l0.countP fun p => p.f1 == a1 := by rw [countI, List.take_length]
    replace hfin := Lib.hid hfin
    go_enter Try.func7, Try.ntmps7
    go_wp2
    go_loopw [6, 13] (fun u v wr => ∃ i : Int, 0 ≤ i ∧ i ≤ l0.length ∧ v = .int .i64 i ∧ u = .int .i64 (countI l0 a1 i.toNat) ∧ Below w.heap.size w wr) (fun _ v _ => l0.length - (intOf v).toNat)
    case atStart => exact ⟨0, by omega, by omega, rfl, rfl, Below.refl _ _⟩
    case round =>
      obtain ⟨i, hi0, hi1, rfl, rfl, hB⟩ := hrel
      by_cases hlt : i < l0.length
      · obtain ⟨ad, e, q0, q1, q2, q3, q4⟩ := at_T27 (Kd.C_below hr0 hB) i hi0 hlt
        subst e
        have hle := countI_le l0 a1 i.toNat
        have HS := Lib.hid (countI_succ l0 a1 i hi0 hlt)
        obtain ⟨p, hp⟩ : ∃ p, rd_T27 l0 i = p := ⟨_, rfl⟩
        obtain ⟨c, hc⟩ : ∃ c, countI l0 a1 i.toNat = c := ⟨_, rfl⟩
        rw [hp] at q0 q1 q2 q3 q4 HS
        rw [hc] at hle HS ⊢
        clear hp hc
        go_wp2_with (go_at_call 18; refine (has_calls a1 p _).mono ?_; rintro e w' ⟨rfl, hb⟩)
        · have ht : (p.f1 == a1) = true := by assumption
          have e1 := HS.out
          rw [if_pos ht] at e1
          go_roundw
          case rel => exact ⟨i + 1, by omega, by omega, rfl, by rw [e1]; rfl, below_step (below_alloc hB _) hb⟩
          case measure => simp [intOf]; omega
        · have ht : (p.f1 == a1) = false := by assumption
          have e1 := HS.out
          rw [if_neg (by rw [ht]; simp)] at e1
          go_roundw
          case rel => exact ⟨i + 1, by omega, by omega, rfl, by rw [e1]; rfl, below_step (below_alloc hB _) hb⟩
          case measure => simp [intOf]; omega
      · obtain rfl : i = l0.length := by omega
        go_wp2
        go_ret
        exact ⟨by rw [← hfin.out]; rfl, hB⟩
end Go.Proofs.Ytganchnnfjdooaa.Q
