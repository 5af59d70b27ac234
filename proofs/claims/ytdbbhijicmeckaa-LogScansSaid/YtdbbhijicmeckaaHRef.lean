/- What the reference's one record, its texts, and what it recovers are.
   Conditions: the bytes are at most 2^36. -/
import Derived.Test.YtdbbhijicmeckaaHParse
import Derived.Test.YtdbbhijicmeckaaQx131
import Derived.Test.YtdbbhijicmeckaaQx119
import Derived.Test.YtdbbhijicmeckaaQx120
namespace Go.Proofs.Ytdbbhijicmeckaa.Q
open Go.RowKit Go.Proofs.YtdbbhijicmeckaaW.PrintWords Go.Proofs.YtdbbhijicmeckaaW.PrintLast Go.Proofs.YtdbbhijicmeckaaW.PrintMore
set_option linter.unusedVariables false
set_option linter.unusedSimpArgs false

def okV (v : List UInt8) : Prop := 0 < v.length ∧ 1 + (v.getD 0 0).toNat ≤ v.length ∧ (numL (hdN v)).length = 1 + (v.getD 0 0).toNat
theorem hdN_le (v : List UInt8) : hdN v ≤ 65535 := by
  have h0 := (v.getD 1 0).toNat_lt
  have h1 := (v.getD 2 0).toNat_lt
  unfold hdN
  split
  · omega
  · split <;> omega
theorem ite_some {α : Type} (m z : Nat) (x y : α) : (if (m : Int) = 1 + (z : Int) then some x else some y) = some (if m = 1 + z then x else y) := by
  by_cases h : m = 1 + z
  · rw [if_pos h, if_pos (by omega)]
  · rw [if_neg h, if_neg (by omega)]
set_option maxHeartbeats 2000000 in
theorem value_loop (v : ByteArray) (hv : v.size ≤ 3) (h0 : 0 < v.size) (h1 : 1 + ((L v).getD 0 0).toNat ≤ v.size) (k : Nat) :
    demurralref07_value.f (k + 10) v = some (if (numL (hdN (L v))).length = 1 + ((L v).getD 0 0).toNat then ((hdN (L v) : Int), 1 + (((L v).getD 0 0).toNat : Int)) else (0, 0)) := by
  have hb0 : bt v 0 = (((L v).getD 0 0).toNat : Int) := bt_L v 0
  have hb1 : bt v 1 = (((L v).getD 1 0).toNat : Int) := bt_L v 1
  have hb2 : bt v 2 = (((L v).getD 2 0).toNat : Int) := bt_L v 2
  have g1 := ((L v).getD 1 0).toNat_lt
  have g2 := ((L v).getD 2 0).toNat_lt
  unfold hdN
  generalize ((L v).getD 0 0).toNat = z at *
  generalize ((L v).getD 1 0).toNat = x at *
  generalize ((L v).getD 2 0).toNat = y at *
  have wu : ∀ m : Int, 0 ≤ m → m ≤ 65535 → IntKind.u64.wrap m = m := fun m h h' => by rw [IntKind.wrap_u64]; omega
  unfold demurralref07_value.f
  rw [hb0, wrap_in _ (by omega) (by omega), if_neg (by omega), if_pos (by omega), if_neg (by omega), wrap_in _ (by omega) (by omega)]
  have hd : decide ((v.size : Int) < 1 + (z : Int)) = false := decide_eq_false (by omega)
  rw [hd]
  have hj : demurralref07_value.j0 (k + 10) v false = demurralref07_value.l0 (k + 9) v 0 1 := by
    rw [demurralref07_value.j0]
    exact if_neg (by decide)
  rw [hj]
  have hl0 : ∀ (M : Nat) (x3 x4 : Int), demurralref07_value.l0 (M + 1) v x3 x4 = if 0 < (v.size : Int) then (if x4 ≤ (wrap64 (bt v 0)) then (if 0 ≤ x4 then (if x4 < (v.size : Int) then (demurralref07_value.l0 M v (IntKind.u64.wrap ((IntKind.u64.wrap (256 * x3)) + (IntKind.u64.wrap (bt v x4)))) (wrap64 (x4 + 1))) else (none)) else (none)) else ((demurralref07_Number.f M x3).bind fun t155 => (if (t155.size : Int) = (wrap64 (1 + (wrap64 (bt v 0)))) then (some (x3, wrap64 (1 + (wrap64 (bt v 0))))) else (some (0, 0))))) else (none) := by
    intro M x3 x4
    simp only [demurralref07_value.l0]
  have hnum := fun n k h0 h1 => ref_number n h0 h1 k
  have w1 : Hid (wrap64 (1 + 1) = 2) := Lib.hid (by unfold wrap64; omega)
  have w2 : Hid (wrap64 (2 + 1) = 3) := Lib.hid (by unfold wrap64; omega)
  have wz : Hid (wrap64 (z : Int) = z) := Lib.hid (wrap_in _ (by omega) (by omega))
  have wz1 : Hid (wrap64 (1 + (z : Int)) = 1 + (z : Int)) := Lib.hid (wrap_in (1 + (z : Int)) (by omega) (by omega))
  have u0 : Hid (IntKind.u64.wrap (256 * 0) = 0) := Lib.hid (by rw [IntKind.wrap_u64]; omega)
  replace hb0 := Lib.hid hb0
  replace hb1 := Lib.hid hb1
  replace hb2 := Lib.hid hb2
  have hz : z = 0 ∨ z = 1 ∨ z = 2 := by omega
  rcases hz with hz | hz | hz
  · rw [if_pos hz]
    rw [hl0 (k + 8), if_pos (by omega), hb0.out, wz.out, if_neg (by omega)]
    rw [show (k + 8 : Nat) = (k + 5) + 3 by omega, hnum 0 (k + 5) (by omega) (by omega), Option.bind_some, wz1.out, strOfNums_size, show ((0 : Nat) : Int) = 0 from rfl]
    exact ite_some _ _ _ _
  · rw [if_neg (show ¬ z = 0 by omega), if_pos hz]
    rw [hl0 (k + 8), if_pos (by omega), hb0.out, wz.out, if_pos (by omega), if_pos (by omega), if_pos (by omega), hb1.out, u0.out, wu x (by omega) (by omega), Int.zero_add, wu x (by omega) (by omega), w1.out]
    rw [hl0 (k + 7), if_pos (by omega), hb0.out, wz.out, if_neg (by omega)]
    rw [show (k + 7 : Nat) = (k + 4) + 3 by omega, hnum x (k + 4) (by omega) (by omega), Option.bind_some, wz1.out, strOfNums_size]
    exact ite_some _ _ _ _
  · rw [if_neg (show ¬ z = 0 by omega), if_neg (show ¬ z = 1 by omega)]
    rw [hl0 (k + 8), if_pos (by omega), hb0.out, wz.out, if_pos (by omega), if_pos (by omega), if_pos (by omega), hb1.out, u0.out, wu x (by omega) (by omega), Int.zero_add, wu x (by omega) (by omega), w1.out]
    rw [hl0 (k + 7), if_pos (by omega), hb0.out, wz.out, if_pos (by omega), if_pos (by omega), if_pos (by omega), hb2.out, wu (256 * (x : Int)) (by omega) (by omega), wu y (by omega) (by omega), wu (256 * (x : Int) + y) (by omega) (by omega), w2.out]
    rw [hl0 (k + 6), if_pos (by omega), hb0.out, wz.out, if_neg (by omega)]
    have e : 256 * (x : Int) + y = ((x * 256 + y : Nat) : Int) := by omega
    rw [e, show (k + 6 : Nat) = (k + 3) + 3 by omega, hnum _ (k + 3) (by omega) (by omega), Option.bind_some, wz1.out, strOfNums_size]
    exact ite_some _ _ _ _
theorem value_f (v : ByteArray) (hv : v.size ≤ 3) (k : Nat) :
    demurralref07_value.f (k + 10) v = some (if 0 < v.size ∧ 1 + ((L v).getD 0 0).toNat ≤ v.size ∧ (numL (hdN (L v))).length = 1 + ((L v).getD 0 0).toNat then ((hdN (L v) : Int), 1 + (((L v).getD 0 0).toNat : Int)) else (0, 0)) := by
  by_cases h0 : 0 < v.size
  · by_cases h1 : 1 + ((L v).getD 0 0).toNat ≤ v.size
    · rw [value_loop v hv h0 h1 k]
      congr 1
      by_cases hc : (numL (hdN (L v))).length = 1 + ((L v).getD 0 0).toNat
      · rw [if_pos hc, if_pos ⟨h0, h1, hc⟩]
      · rw [if_neg hc, if_neg (fun h => hc h.2.2)]
    · rw [if_neg (fun h => h1 h.2.1)]
      have hb0 : bt v 0 = (((L v).getD 0 0).toNat : Int) := bt_L v 0
      have g0 := ((L v).getD 0 0).toNat_lt
      unfold demurralref07_value.f
      rw [hb0, wrap_in _ (by omega) (by omega), if_neg (by omega), if_pos (by omega)]
      have hjt : demurralref07_value.j0 (k + 10) v true = some (0, 0) := by
        rw [demurralref07_value.j0]
        exact if_pos rfl
      split
      · exact hjt
      · rw [wrap_in _ (by omega) (by omega), decide_eq_true (by omega)]
        exact hjt
  · rw [if_neg (fun h => h0 h.1)]
    unfold demurralref07_value.f
    rw [if_pos (by omega)]
    rw [demurralref07_value.j0]
    exact if_pos rfl
theorem numL_one (n : Nat) : 1 ≤ (numL n).length := (numL_len n).2
set_option maxHeartbeats 2000000 in
/-- The one number that some bytes are. -/
theorem unpack_f (v : ByteArray) (hv : v.size ≤ 3) (k : Nat) (hk : 40 ≤ k) :
    (0 < v.size ∧ v.size = 1 + ((L v).getD 0 0).toNat ∧ (numL (hdN (L v))).length = 1 + ((L v).getD 0 0).toNat ∧ demurralref07_Unpack.f k v ⟨#[110]⟩ = some ([⟨false, hdN (L v), ⟨#[]⟩⟩], 0, 0)) ∨
    (¬ (0 < v.size ∧ v.size = 1 + ((L v).getD 0 0).toNat ∧ (numL (hdN (L v))).length = 1 + ((L v).getD 0 0).toNat) ∧ ∃ l a, demurralref07_Unpack.f k v ⟨#[110]⟩ = some (l, a, 4)) := by
  have hb : bt ⟨#[110]⟩ 0 = 110 := by decide +kernel
  have h1 : ((⟨#[110]⟩ : ByteArray).size : Int) = 1 := by decide +kernel
  generalize (⟨#[110]⟩ : ByteArray) = kn at hb h1 ⊢
  obtain ⟨K, rfl⟩ : ∃ K, k = K + 10 + 3 := ⟨k - 13, by omega⟩
  have hval := value_f v hv (K)
  have hle := hdN_le (L v)
  have hex : v.extract 0 v.size = v := by
    apply L_inj
    rw [L_extract, List.drop_zero, Nat.sub_zero, ← L_len, List.take_length]
  have hw : Hid (wrap64 (0 + 1) = 1) := Lib.hid (by unfold wrap64; omega)
  have hU0 : ∀ (M : Nat) (i : Int), demurralref07_Unpack.l0 (M + 1) v kn i = if i < (kn.size : Int) then (if 0 ≤ i then (if (bt kn i) = 110 then (demurralref07_Unpack.l0 M v kn (wrap64 (i + 1))) else (if (bt kn i) = 116 then (demurralref07_Unpack.l0 M v kn (wrap64 (i + 1))) else (if (bt kn i) = 42 then (demurralref07_Unpack.l0 M v kn (wrap64 (i + 1))) else (some (([] : List (S65)), 0, 1))))) else (none)) else (demurralref07_Unpack.l1 M v kn 0 ([] : List (S65)) 0 0) := by
    intro M i
    simp only [demurralref07_Unpack.l0]
  have hU1 : ∀ (M : Nat) (x7 : Int) (l : List S65) (a e : Int), demurralref07_Unpack.l1 (M + 1) v kn x7 l a e = if x7 < (kn.size : Int) then (if 0 ≤ x7 then ((demurralref07_one.f M v l a e (bt kn x7)).bind fun bt216 => (if bt216.2.2 = 0 then (demurralref07_Unpack.l1 M v kn (wrap64 (x7 + 1)) bt216.1 bt216.2.1 bt216.2.2) else (some (bt216.1, bt216.2.1, bt216.2.2)))) else (none)) else (if a < (v.size : Int) then (some (([] : List (S65)), a, 4)) else (some (l, 0, 0))) := by
    intro M x7 l a e
    simp only [demurralref07_Unpack.l1]
  have hstart : demurralref07_Unpack.f (K + 10 + 3) v kn = demurralref07_Unpack.l1 (K + 10 + 1) v kn 0 [] 0 0 := by
    show demurralref07_Unpack.l0 (K + 10 + 2 + 1) v kn 0 = _
    rw [hU0, h1, if_pos (by omega), if_pos (by omega), hb, if_pos rfl, hw.out]
    show demurralref07_Unpack.l0 (K + 10 + 1 + 1) v kn 1 = _
    rw [hU0, h1, if_neg (by omega)]
  rw [hstart, hU1, h1, if_pos (by omega), if_pos (by omega), hb]
  unfold demurralref07_one.f demurralref07_number.f
  rw [if_pos rfl, if_pos (by omega), if_pos (by omega)]
  rw [show (0 : Int).toNat = 0 from rfl, hex, hval, Option.bind_some]
  by_cases hc : 0 < v.size ∧ 1 + ((L v).getD 0 0).toNat ≤ v.size ∧ (numL (hdN (L v))).length = 1 + ((L v).getD 0 0).toNat
  · rw [if_pos hc]
    dsimp only
    rw [if_neg (by omega), if_neg (by omega), Option.bind_some]
    rw [if_pos (by simp), Option.bind_some, if_pos (by simp), Option.bind_some, Option.bind_some]
    dsimp only
    rw [if_pos rfl, hw.out, Int.zero_add]
    rw [wrap_in (1 + (((L v).getD 0 0).toNat : Int)) (by omega) (by omega)]
    rw [show K + 10 = (K + 9) + 1 by omega, hU1, h1, if_neg (by omega)]
    by_cases he : v.size = 1 + ((L v).getD 0 0).toNat
    · left
      refine ⟨hc.1, he, hc.2.2, ?_⟩
      rw [if_neg (by omega)]
      rfl
    · right
      refine ⟨fun h => he h.2.1, ?_⟩
      rw [if_pos (by omega)]
      exact ⟨_, _, rfl⟩
  · right
    rw [if_neg hc]
    dsimp only
    rw [if_pos rfl, Option.bind_some, Option.bind_some]
    dsimp only
    rw [if_neg (by decide)]
    exact ⟨fun h => hc ⟨h.1, by omega, h.2.2⟩, _, _, rfl⟩
theorem numL_head (n : Nat) (rest : List UInt8) (hn : n ≤ 65535) : ((L (strOfNums (numL n)) ++ rest).getD 0 0).toNat + 1 = (numL n).length := by
  rw [L_nums]
  unfold numL
  split
  · simp
  · split
    · simp
    · simp
theorem recL_head (t : List UInt8) (ht : t.length ≤ 65535) : ((recL t).getD 0 0).toNat + 1 = (numL t.length).length := by
  have h : recL t = L (strOfNums (numL (B t).size)) ++ (t ++ L (strOfNums (sumL (crcV (textI (B t)))))) := by
    unfold recL recI textI
    rw [L_append, L_append, L_B, List.append_assoc]
  rw [h, B_size, numL_head _ _ ht]
/-- A record that stands at the beginning of bytes tells its number in the one way. -/
theorem canon {u : List UInt8} (h : okN u) (h4 : recL (txt u) = u.take (1 + (u.getD 0 0).toNat + hdN u + 4)) : (numL (hdN u)).length = 1 + (u.getD 0 0).toNat := by
  obtain ⟨o1, o2, o3, o4, o5⟩ := h
  have hl : (txt u).length = hdN u := by
    unfold txt
    rw [List.length_take, List.length_drop]
    omega
  have hh := recL_head (txt u) (by omega)
  rw [hl, h4] at hh
  have e : (u.take (1 + (u.getD 0 0).toNat + hdN u + 4)).getD 0 0 = u.getD 0 0 := by
    rw [List.getD_eq_getElem?_getD, List.getElem?_take_of_lt (by omega), List.getD_eq_getElem?_getD]
  rw [e] at hh
  omega
end Go.Proofs.Ytdbbhijicmeckaa.Q
namespace Go.Proofs.Ytdbbhijicmeckaa.Q
open Go.RowKit Go.Proofs.YtdbbhijicmeckaaW.PrintWords Go.Proofs.YtdbbhijicmeckaaW.PrintLast Go.Proofs.YtdbbhijicmeckaaW.PrintMore
set_option linter.unusedVariables false
set_option linter.unusedSimpArgs false

def R (u : ByteArray) : List ByteArray × Int := match parse (L u) with
  | none => ([], 0)
  | some (m, t) => ([B t], (m : Int))
theorem R_none {u : ByteArray} (h : parse (L u) = none) : R u = ([], 0) := by unfold R; rw [h]
theorem R_some {u : ByteArray} {m : Nat} {t : List UInt8} (h : parse (L u) = some (m, t)) : R u = ([B t], (m : Int)) := by unfold R; rw [h]
theorem one_next (u : ByteArray) (j K : Nat) (l : List S65) (a e : Int) : demurralref09_one.j1 (K + 1) u j false l a e = demurralref09_one.l0 K u (wrap64 (j + 1)) := by
  rw [demurralref09_one.j1]
  exact if_neg (by decide)
theorem hdN_take (u : List UInt8) (j : Nat) (h : (u.getD 0 0).toNat < j) : (u.take j).getD 0 0 = u.getD 0 0 ∧ ((u.getD 0 0).toNat ≤ 2 → hdN (u.take j) = hdN u) := by
  have g : ∀ i, i < j → (u.take j).getD i 0 = u.getD i 0 := fun i hi => by rw [List.getD_eq_getElem?_getD, List.getElem?_take_of_lt hi, List.getD_eq_getElem?_getD]
  have g0 := g 0 (by omega)
  refine ⟨g0, fun h2 => ?_⟩
  unfold hdN
  rw [g0]
  by_cases z0 : (u.getD 0 0).toNat = 0
  · rw [if_pos z0, if_pos z0]
  · by_cases z1 : (u.getD 0 0).toNat = 1
    · rw [if_neg z0, if_pos z1, if_neg z0, if_pos z1, g 1 (by omega)]
    · rw [if_neg z0, if_neg z1, if_neg z0, if_neg z1, g 1 (by omega), g 2 (by omega)]
theorem one_l0 (u : ByteArray) (hu : u.size ≤ 1099511627776) : ∀ (d j K : Nat), j + d = 4 → 10500 * d + 50 ≤ K →
    demurralref09_one.l0 K u j = some (if j ≤ 1 + ((L u).getD 0 0).toNat then R u else ([], 0))
  | 0, j, K, h, hK => by
    obtain ⟨k, rfl⟩ : ∃ k, K = k + 1 := ⟨K - 1, by omega⟩
    obtain rfl : j = 4 := by omega
    rw [demurralref09_one.l0, if_neg (by decide)]
    split
    · have : parse (L u) = none := parse_no fun h => by have := h.1.2.1; omega
      rw [R_none this]
    · rfl
  | d + 1, j, K, h, hK => by
    have ih := fun M hM => one_l0 u hu d (j + 1) M (by omega) hM
    have hw : Hid (wrap64 ((j : Int) + 1) = ((j + 1 : Nat) : Int)) := Lib.hid (by rw [wrap_in _ (by omega) (by omega)]; omega)
    obtain ⟨z, hz⟩ : ∃ z, ((L u).getD 0 0).toNat = z := ⟨_, rfl⟩
    have hlu := L_len u
    -- what is left where this place is none
    have hnext : ∀ M, 10500 * d + 50 ≤ M → (j = 1 + z → parse (L u) = none) → demurralref09_one.l0 M u (wrap64 ((j : Int) + 1)) = some (if j ≤ 1 + ((L u).getD 0 0).toNat then R u else ([], 0)) := by
      intro M hM hp
      rw [hw.out, ih M hM, hz]
      by_cases hj : j = 1 + z
      · rw [if_neg (by omega), if_pos (by omega), R_none (hp hj)]
      · by_cases hj2 : j ≤ 1 + z
        · rw [if_pos (by omega), if_pos hj2]
        · rw [if_neg (by omega), if_neg hj2]
    obtain ⟨k, rfl⟩ : ∃ k, K = k + 2 := ⟨K - 2, by omega⟩
    rw [show k + 2 = (k + 1) + 1 by omega, demurralref09_one.l0, if_pos (by omega)]
    by_cases hjs : j ≤ u.size
    · rw [if_pos (by omega), if_pos (by omega), Int.toNat_natCast]
      have hLv : L (u.extract 0 j) = (L u).take j := by rw [L_extract, List.drop_zero, Nat.sub_zero]
      have hvs : (u.extract 0 j).size = j := by rw [← L_len, hLv, List.length_take]; omega
      rcases unpack_f (u.extract 0 j) (by omega) (k + 1) (by omega) with ⟨c0, c1, c2, hU⟩ | ⟨hno, l, a, hU⟩
      · rw [hU, Option.bind_some]
        dsimp only
        rw [hvs] at c0 c1
        rw [hLv] at c1 c2
        have hg0 : ((L u).take j).getD 0 0 = (L u).getD 0 0 := by rw [List.getD_eq_getElem?_getD, List.getElem?_take_of_lt c0, List.getD_eq_getElem?_getD]
        rw [hg0, hz] at c1 c2
        have hhd : hdN ((L u).take j) = hdN (L u) := (hdN_take (L u) j (by omega)).2 (by omega)
        rw [hhd] at c2
        rw [hLv, hhd, if_pos rfl, if_pos (by simp)]
        have hrd : (rd_T65 ([⟨false, (hdN (L u) : Int), ⟨#[]⟩⟩] : List S65) 0).f1 = (hdN (L u) : Int) := rfl
        rw [hrd]
        have hle := hdN_le (L u)
        obtain ⟨n, hn⟩ : ∃ n, hdN (L u) = n := ⟨_, rfl⟩
        rw [hn] at hle c2 ⊢
        have hwn : Hid (wrap64 (n : Int) = (n : Int)) := Lib.hid (wrap_in (n : Int) (by omega) (by omega))
        have hw2 : Hid (wrap64 ((j : Int) + (n : Int)) = ((j + n : Nat) : Int)) := Lib.hid ((wrap_in ((j : Int) + (n : Int)) (by omega) (by omega)).trans (by omega))
        have hw3 : Hid (wrap64 (((j + n : Nat) : Int) + 4) = ((j + n + 4 : Nat) : Int)) := Lib.hid ((wrap_in (((j + n : Nat) : Int) + 4) (by omega) (by omega)).trans (by omega))
        by_cases hn1 : n ≤ 1024
        · rw [if_pos (by omega), hwn.out, hw2.out, hw3.out]
          by_cases hfit : j + n + 4 ≤ u.size
          · rw [decide_eq_true (by omega)]
            rw [demurralref09_one.j1, if_pos (rfl : true = true), if_pos (by simp), if_pos (by omega)]
            have hrd2 : (rd_T65 ([⟨false, (n : Int), ⟨#[]⟩⟩] : List S65) 0).f1 = (n : Int) := rfl
            rw [hrd2, hwn.out, hw2.out, if_pos (by omega), if_pos (by omega), Int.toNat_natCast, Int.toNat_natCast]
            have ht : u.extract j (j + n) = B (txt (L u)) := by
              apply L_inj
              rw [L_extract, L_B, txt, hz, hn, show j + n - j = n by omega, show 1 + z = j by omega]
            have hts : (B (txt (L u))).size = n := by
              rw [← ht, ByteArray.size_extract]; omega
            rw [ht, ref_record (B (txt (L u))) (by omega) k (by omega), Option.bind_some, hts, hw2.out, hw3.out, if_pos (by omega), if_pos (by omega), Int.toNat_natCast]
            have hok : okN (L u) := ⟨by omega, by omega, by omega, by omega, by omega⟩
            have hcmp : (recI (B (txt (L u)))).toList = (u.extract 0 (j + n + 4)).toList ↔ recL (txt (L u)) = (L u).take (1 + ((L u).getD 0 0).toNat + hdN (L u) + 4) := by
              rw [ByteArray.toList_eq, ByteArray.toList_eq]
              show L (recI _) = L (u.extract 0 (j + n + 4)) ↔ _
              rw [L_extract, List.drop_zero, hz, hn, Nat.sub_zero, show 1 + z + n + 4 = j + n + 4 by omega]
              exact Iff.rfl
            by_cases h4 : recL (txt (L u)) = (L u).take (1 + ((L u).getD 0 0).toNat + hdN (L u) + 4)
            · rw [if_pos (hcmp.2 h4), R_some (parse_yes hok h4), if_pos (by omega), hz, hn, show 1 + z + n + 4 = j + n + 4 by omega]
            · rw [if_neg (fun h => h4 (hcmp.1 h))]
              exact hnext k (by omega) fun _ => parse_no fun h => h4 h.2
          · rw [decide_eq_false (by omega), one_next]
            exact hnext k (by omega) fun _ => parse_no fun h => by have := h.1.2.2.2.2; rw [hn, hz] at this; omega
        · rw [if_neg (by omega), one_next]
          exact hnext k (by omega) fun _ => parse_no fun h => by have := h.1.2.2.2.1; omega
      · rw [hU, Option.bind_some]
        dsimp only
        rw [if_neg (by decide), one_next]
        refine hnext k (by omega) fun hj => parse_no fun h => hno ?_
        have hc := canon h.1 h.2
        have hg0 : ((L u).take j).getD 0 0 = (L u).getD 0 0 := by rw [List.getD_eq_getElem?_getD, List.getElem?_take_of_lt (by omega), List.getD_eq_getElem?_getD]
        have h2 := h.1.2.1
        have hhd : hdN ((L u).take j) = hdN (L u) := (hdN_take (L u) j (by omega)).2 (by omega)
        rw [hvs, hLv, hhd, hg0]
        exact ⟨by omega, by omega, hc⟩
    · rw [if_neg (by omega)]
      exact hnext (k + 1) (by omega) fun hj => parse_no fun h => by have := h.1.2.2.1; omega
end Go.Proofs.Ytdbbhijicmeckaa.Q
namespace Go.Proofs.Ytdbbhijicmeckaa.Q
open Go.RowKit Go.Proofs.YtdbbhijicmeckaaW.PrintWords Go.Proofs.YtdbbhijicmeckaaW.PrintLast Go.Proofs.YtdbbhijicmeckaaW.PrintMore
set_option linter.unusedVariables false
set_option linter.unusedSimpArgs false

theorem one_f (u : ByteArray) (hu : u.size ≤ 1099511627776) (K : Nat) (hK : 42100 ≤ K) : demurralref09_one.f K u = some (R u) := by
  have := one_l0 u hu 4 0 K (by omega) (by omega)
  rw [if_pos (by omega)] at this
  exact this
theorem L_tail (s : ByteArray) (i : Nat) : L (s.extract i s.size) = (L s).drop i := by
  have := L_len s
  rw [L_extract, List.take_of_length_le (by rw [List.length_drop]; omega)]
theorem R_oneI (s : ByteArray) (i : Nat) (hi : i ≤ s.size) : (oneI s i = none ∧ R (s.extract i s.size) = ([], 0)) ∨ (∃ m t, oneI s i = some (i + m, t) ∧ R (s.extract i s.size) = ([t], (m : Int))) := by
  have h := oneI_parse s i hi
  unfold R
  rw [L_tail]
  cases hp : parse ((L s).drop i) with
  | none => rw [hp] at h; exact .inl ⟨h, rfl⟩
  | some q => rw [hp] at h; exact .inr ⟨q.1, B q.2, h, rfl⟩
def lastFrom (i : Int) (l : List (Int × ByteArray)) : Int := l.foldl (fun _ x => x.1) i
theorem scan_l0 (s : ByteArray) (hs : s.size ≤ 68719476736) : ∀ (f i K : Nat) (l : List ByteArray), i ≤ s.size → s.size < f + i → l.length + f ≤ 1099511627776 → f + 42200 ≤ K →
    demurralref09_Scan.l0 K s l i = some (l ++ texts (recs s f i), lastFrom i (recs s f i))
  | 0, i, K, l, hi, hf, hl, hK => by omega
  | f + 1, i, K, l, hi, hf, hl, hK => by
    obtain ⟨k, rfl⟩ : ∃ k, K = k + 1 := ⟨K - 1, by omega⟩
    have ho := one_f (s.extract i s.size) (by rw [ByteArray.size_extract]; omega) k (by omega)
    rw [demurralref09_Scan.l0, if_pos (by omega), if_pos (by omega), Int.toNat_natCast, ho, Option.bind_some]
    rcases R_oneI s i hi with ⟨h1, h2⟩ | ⟨m, t, h1, h2⟩
    · rw [h2, recs_none s _ i h1]
      dsimp only
      rw [if_pos rfl]
      simp [texts, lastFrom]
    · have he := oneI_end h1
      rw [h2]
      dsimp only
      have ih := scan_l0 s hs f (i + m) k (l ++ [t]) (by omega) (by omega) (by rw [List.length_append]; simp; omega) (by omega)
      have hw : Hid (wrap64 ((i : Int) + (m : Int)) = ((i + m : Nat) : Int)) := Lib.hid ((wrap_in ((i : Int) + (m : Int)) (by omega) (by omega)).trans (by omega))
      rw [if_neg (by omega), if_pos (by simp; omega), hw.out, ih, recs_some s f i _ t h1]
      simp [texts, lastFrom]
theorem ref_scan (s : ByteArray) (hs : s.size ≤ 68719476736) (K : Nat) (hK : s.size + 42300 ≤ K) : demurralref09_Scan.f K s = some (scanL s, scanE s) :=
  scan_l0 s hs (s.size + 1) 0 K [] (by omega) (by omega) (by simp; omega) (by omega)
theorem rec_l0 (l : List ByteArray) (hl : l.length ≤ 1099511627776) : ∀ (d i K : Nat) (st : ByteArray × List ByteArray), i + d = l.length → st.2.length ≤ i → 2 * d + 1 ≤ K →
    demurralref09_Recover.l0 K l l.length i st.1 st.2 = some ((l.drop i).foldl recStep st)
  | 0, i, K, st, h, hs, hK => by
    obtain ⟨k, rfl⟩ : ∃ k, K = k + 1 := ⟨K - 1, by omega⟩
    rw [demurralref09_Recover.l0, if_neg (by omega), List.drop_of_length_le (by omega)]
    rfl
  | d + 1, i, K, st, h, hs, hK => by
    obtain ⟨k, rfl⟩ : ∃ k, K = k + 2 := ⟨K - 2, by omega⟩
    have h0 : i < l.length := by omega
    have hw : Hid (wrap64 ((i : Int) + 1) = ((i + 1 : Nat) : Int)) := Lib.hid ((wrap_in ((i : Int) + 1) (by omega) (by omega)).trans (by omega))
    have ih := fun st' (h' : st'.2.length ≤ i + 1) => rec_l0 l hl d (i + 1) k st' (by omega) h' (by omega)
    rw [show k + 2 = (k + 1) + 1 by omega, demurralref09_Recover.l0, if_pos (by omega), if_pos (by omega), if_pos (by omega), rd_nat l i h0, List.drop_eq_getElem_cons h0, List.foldl_cons]
    generalize l[i] = t
    unfold recStep
    by_cases ht : t.size = 0
    · rw [if_neg (by omega), if_pos ht, demurralref09_Recover.j1, if_neg (by decide), if_neg (by omega), hw.out]
      exact ih st (by omega)
    · rw [if_pos (by omega), if_pos (by omega), if_neg ht, demurralref09_Recover.j1]
      by_cases h1 : bt t 0 = 115
      · rw [if_pos (by rw [h1]; rfl), if_pos (by omega), if_pos (by omega), if_pos (by omega), if_neg (by omega), hw.out, if_pos h1]
        exact ih (t.extract 1 t.size, []) (by simp)
      · rw [if_neg (by simpa using h1), if_pos (by omega), if_pos (by omega), if_neg h1]
        by_cases h2 : bt t 0 = 99
        · rw [if_pos h2, if_pos (by omega), if_pos (by omega), hw.out, if_pos h2]
          exact ih (st.1, st.2 ++ [t.extract 1 t.size]) (by simp; omega)
        · rw [if_neg h2, hw.out, if_neg h2]
          exact ih st (by omega)
theorem scanL_len (s : ByteArray) : (scanL s).length ≤ s.size + 1 := by
  unfold scanL
  rw [texts_len]
  exact recs_len s _ _
theorem ref_recover (s : ByteArray) (hs : s.size ≤ 68719476736) (K : Nat) (hK : 2 * s.size + 42300 ≤ K) : demurralref09_Recover.f K s = some (recOf (scanL s)) := by
  have := scanL_len s
  unfold demurralref09_Recover.f
  rw [ref_scan s hs K (by omega), Option.bind_some]
  exact rec_l0 (scanL s) (by omega) (scanL s).length 0 K (⟨#[]⟩, []) (by omega) (by simp) (by omega)
end Go.Proofs.Ytdbbhijicmeckaa.Q
