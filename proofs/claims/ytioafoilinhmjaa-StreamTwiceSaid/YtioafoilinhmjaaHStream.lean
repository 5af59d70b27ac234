/- stream.Stream answers so many bytes of the blocks 1, 2, 3 and so on, one behind the other; or it refuses.
   Conditions: none but the types. -/
import Derived.Test.YtioafoilinhmjaaHBlock
import Derived.Test.YtioafoilinhmjaaHBuilder
import Derived.Test.YtioafoilinhmjaaQx118
namespace Go.Proofs.Ytioafoilinhmjaa.Q
open Go.RowKit Go.Proofs.YtioafoilinhmjaaW.PrintWords Go.Proofs.YtioafoilinhmjaaW.PrintLast Go.Proofs.YtioafoilinhmjaaW.PrintMore
set_option linter.unusedVariables false
set_option linter.unusedSimpArgs false

theorem outI_length (F X : List Int) (k : Nat) : (outI F X k).length = 64 := by
  induction k with
  | zero => simp [outI]
  | succ k ih => rw [outI, List.length_set, ih]
theorem blockI_len (key nonce : ByteArray) (n : Int) : (blockI key n nonce).size = 64 := by
  unfold blockI
  rw [strOfNums_size, outI_length]
/-- The bytes of the first blocks. -/
def catI (key nonce : ByteArray) : Nat → List UInt8
  | 0 => []
  | m + 1 => catI key nonce m ++ (blockI key ((m : Int) + 1) nonce).data.toList
theorem catI_length (key nonce : ByteArray) (m : Nat) : (catI key nonce m).length = 64 * m := by
  induction m with
  | zero => rfl
  | succ m ih =>
    have := blockI_len key nonce ((m : Int) + 1)
    rw [ByteArray.size] at this
    rw [catI, List.length_append, ih, Array.length_toList, this]
    omega
theorem catI_take (key nonce : ByteArray) (n m : Nat) : ∀ d, n ≤ 64 * m → (catI key nonce (m + d)).take n = (catI key nonce m).take n := by
  intro d h
  induction d with
  | zero => rfl
  | succ d ih =>
    rw [show m + (d + 1) = (m + d) + 1 by omega, catI, List.take_append_of_le_length (by rw [catI_length]; omega), ih]
/-- The first bytes of the stream. -/
def streamI (key nonce : ByteArray) (n : Nat) : ByteArray := ⟨((catI key nonce 64).take n).toArray⟩
def mayB (key nonce : ByteArray) (many : Int) : Bool := decide (key.size = 32 ∧ nonce.size = 12 ∧ 0 ≤ many ∧ many ≤ 4096)
def stream_Stream.f (key nonce : ByteArray) (many : Int) : Option (ByteArray × Int) :=
  if mayB key nonce many = true then some (streamI key nonce many.toNat, 0) else some (⟨#[]⟩, 2)
theorem may_yes (key nonce : ByteArray) (m : Int) (h : mayB key nonce m = true) : stream_may.f key nonce m = some 0 := by
  obtain ⟨hk, hn, h0, h1⟩ := of_decide_eq_true h
  unfold stream_may.f
  rw [if_pos (by omega), if_pos (by omega), if_neg (by omega), if_neg (by omega)]
theorem may_not (key nonce : ByteArray) (m : Int) (h : mayB key nonce m = false) : stream_may.f key nonce m = some 2 := by
  have h' := of_decide_eq_false h
  unfold stream_may.f
  split
  · split
    · split
      · rfl
      · split
        · rfl
        · omega
    · rfl
  · rfl
theorem catI_cells (key nonce : ByteArray) (m : Nat) : Lib.byteCells (catI key nonce (m + 1)) = Lib.byteCells (catI key nonce m) ++ Lib.strCells (blockI key ((m : Int) + 1) nonce) := by
  rw [catI]
  simp [Lib.byteCells, Lib.strCells]
theorem builder_below {B b : Nat} {bs : List Value} {w w' : World} (h : Lib.IsBuilder 53 5 B b bs w) (hb : Below w.heap.size w w') : Lib.IsBuilder 53 5 B b bs w' := by
  have key : ∀ p, Lib.BuilderAt 53 5 B b p bs w → Lib.BuilderAt 53 5 B b p bs w' := by
    rintro p ⟨hB, v, hbk, hown, hne⟩
    exact ⟨hB, v, (hb.block b (Array.getElem?_eq_some_iff.1 hbk).1).trans hbk, pw_own_below hown hb, hne⟩
  exact h.imp (key _) (key _)
theorem stream_no (key nonce : ByteArray) (many : Int) (w : World) (h : mayB key nonce many = false) :
    Calls Try.prog 13 #[.string key, .string nonce, .int .i64 many] w fun e w' => e = .returned (.tuple #[.string ⟨#[]⟩, .int .i64 2]) ∧ Below w.heap.size w w' := by
  replace h := Lib.hid (may_not key nonce many h)
  go_enter Try.func13, Try.ntmps13
  go_wp2_with (go_at_call 18; refine (stream_may.calls _ _ _ _ _ h.out).mono ?_; rintro e w' ⟨rfl, ⟨⟨n, rfl⟩⟩⟩)
  go_ret2
  exact ⟨rfl, pw_below_drewN (Below.refl _ _) n⟩
set_option maxHeartbeats 2000000 in
set_option maxRecDepth 100000 in
theorem stream_yes (key nonce : ByteArray) (many : Int) (w : World) (h : mayB key nonce many = true) :
    Calls Try.prog 13 #[.string key, .string nonce, .int .i64 many] w fun e w' => e = .returned (.tuple #[.string (streamI key nonce many.toNat), .int .i64 0]) ∧ Below w.heap.size w w' := by
  obtain ⟨hk, hn, h0, h1⟩ := of_decide_eq_true h
  have hb : ∀ n, stream_block.f key n nonce = some (blockI key n nonce) := fun n => if_pos ⟨hk, hn⟩
  replace hb := Lib.hid hb
  clear hk hn
  replace h := Lib.hid (may_yes key nonce many h)
  go_enter Try.func13, Try.ntmps13
  go_wp2_with (go_at_call 18; refine (stream_may.calls _ _ _ _ _ h.out).mono ?_; rintro e w' ⟨rfl, ⟨⟨n, rfl⟩⟩⟩)
  have hI : Lib.IsBuilder 53 5 w.heap.size w.heap.size (Lib.byteCells (catI key nonce 0)) ((w.drewN n).alloc (.cells #[.pointer none, .slice none 0 0] 53)) :=
    .inl ⟨Nat.le_refl _, .slice none 0 0, heap_alloc_new (w.drewN n) _, own_nil _ _ _ _, by simp [Value.ownBlock]⟩
  have hB : Below w.heap.size w ((w.drewN n).alloc (.cells #[.pointer none, .slice none 0 0] 53)) := below_alloc (pw_below_drewN (Below.refl _ _) n) _
  go_loopw [10] (fun v wr => ∃ m : Nat, m ≤ 64 ∧ v = .int .u32 ((m : Int) + 1) ∧ Lib.IsBuilder 53 5 w.heap.size w.heap.size (Lib.byteCells (catI key nonce m)) wr ∧ Below w.heap.size w wr) (fun v _ => 66 - (intOf v).toNat)
  case atStart => exact ⟨0, by omega, rfl, hI, hB⟩
  case round =>
    clear hI hB
    obtain ⟨m, hm, rfl, hI, hB⟩ := hrel
    have hl : ((Lib.byteCells (catI key nonce m)).length : Int) = 64 * m := by rw [Lib.byteCells_length, catI_length]; omega
    have hlen : (Lib.byteCells (catI key nonce m)).length + 64 ≤ 140737488355328 := by rw [Lib.byteCells_length, catI_length]; omega
    replace hl := Lib.hid hl
    replace hlen := Lib.hid hlen
    by_cases hlt : 64 * (m : Int) < many
    · go_wp2_with (go_at_call 23; refine (Sh_Builder_Len _ _ _ _ hI).mono ?_; rintro e w' ⟨rfl, rfl⟩; rw [hl.out])
      refine (stream_block.calls key _ nonce _ _ (hb.out _)).mono ?_
      rintro e w1 ⟨rfl, hb1⟩
      have hI1 := builder_below hI hb1
      have hB1 := below_step hB hb1
      clear hI hB hb1
      go_wp2_with fail
      refine (writeString_any _ _ _ _ _ hI1 (by rw [blockI_len]; exact hlen.out) hB1.size).mono ?_
      rintro e w2 ⟨rfl, hI2, hb2⟩
      have hI3 : Lib.IsBuilder 53 5 w.heap.size w.heap.size (Lib.byteCells (catI key nonce (m + 1))) w2 := by rw [catI_cells]; exact .inr hI2
      have hB2 : Below w.heap.size w w2 := hB1.trans hb2
      clear hI1 hI2 hb2 hB1
      go_wp2
      go_roundw
      case rel => exact ⟨m + 1, by omega, by rw [show (((m + 1 : Nat)) : Int) = (m : Int) + 1 by omega], hI3, hB2⟩
      case measure => simp [intOf]; omega
    · go_wp2_with (go_at_call 23; refine (Sh_Builder_Len _ _ _ _ hI).mono ?_; rintro e w' ⟨rfl, rfl⟩; rw [hl.out])
      refine (Sh_Builder_String_any _ _ _ _ hI hB.size).mono ?_
      rintro e w1 ⟨rfl, hb1⟩
      have hB1 : Below w.heap.size w w1 := hB.trans hb1
      clear hI hb1 hB
      have hsz : ((⟨(catI key nonce m).toArray⟩ : ByteArray).size : Int) = 64 * m := by have := catI_length key nonce m; simp [ByteArray.size, this]
      have hle : many ≤ ((⟨(catI key nonce m).toArray⟩ : ByteArray).size : Int) := by omega
      obtain ⟨N, rfl⟩ := Int.eq_ofNat_of_zero_le h0
      have hfin : (⟨(catI key nonce m).toArray⟩ : ByteArray).extract 0 N = streamI key nonce N := by
        have := catI_take key nonce N m (64 - m) (by omega)
        rw [show m + (64 - m) = 64 by omega] at this
        unfold streamI
        rw [this]
        apply ByteArray.ext
        simp
      replace hfin := Lib.hid hfin
      replace hsz := Lib.hid hsz
      go_wp2
      go_ret2
      exact ⟨by rw [Int.toNat_natCast, ← hfin.out]; rfl, hB1⟩
theorem stream_Stream.calls (a0 : ByteArray) (a1 : ByteArray) (a2 : Int) (r1 : ByteArray) (r2 : Int) (w : World) (h : stream_Stream.f a0 a1 a2 = some (r1, r2)) :
    Calls Try.prog 13 #[.string a0, .string a1, .int .i64 a2] w fun e w' => e = .returned (.tuple #[.string r1, .int .i64 r2]) ∧ Below w.heap.size w w' := by
  unfold stream_Stream.f at h
  cases hb : mayB a0 a1 a2 with
  | true =>
    rw [if_pos hb] at h
    injection h with h
    injection h with h1 h2
    subst h1 h2
    exact stream_yes a0 a1 a2 w hb
  | false =>
    rw [if_neg (by rw [hb]; simp)] at h
    injection h with h
    injection h with h1 h2
    subst h1 h2
    exact stream_no a0 a1 a2 w hb
end Go.Proofs.Ytioafoilinhmjaa.Q
