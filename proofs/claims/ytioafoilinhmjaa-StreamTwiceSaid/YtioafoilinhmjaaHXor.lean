/- stream.Xor answers a text's bytes, each xor the stream's; or it refuses.
   Conditions: none but the types. -/
import Derived.Test.YtioafoilinhmjaaHStream
namespace Go.Proofs.Ytioafoilinhmjaa.Q
open Go.RowKit Go.Proofs.YtioafoilinhmjaaW.PrintWords Go.Proofs.YtioafoilinhmjaaW.PrintLast Go.Proofs.YtioafoilinhmjaaW.PrintMore
set_option linter.unusedVariables false
set_option linter.unusedSimpArgs false

/-- Block g holds (at least) n bytes that may be written; some mark lies behind them. -/
def Buf (n : Nat) (w : World) (g : Nat) (xs : List Int) : Prop :=
  xs.length = n ∧ ∃ cur K, w.heap[g]? = some (.cells cur 5 (K, K + 1)) ∧ n ≤ K ∧ ∀ j, j < n → cur[j]? = some (.int .u8 (xs.getD j 0))
namespace Buf
variable {n g : Nat} {w w' : World} {xs : List Int}
theorem lt (h : Buf n w g xs) : g < w.heap.size := by
  obtain ⟨_, cur, K, hb, _⟩ := h
  exact (Array.getElem?_eq_some_iff.1 hb).1
theorem cell (h : Buf n w g xs) (i : Int) (h0 : 0 ≤ i) (h1 : i < n) : w.cell? ⟨g, i.toNat, none⟩ = some (.int .u8 (rd xs i)) := by
  obtain ⟨_, cur, K, hb, _, hc⟩ := h
  simp [World.cell?, hb, rd, hc i.toNat (by omega)]
theorem free (h : Buf n w g xs) (i : Int) (h0 : 0 ≤ i) (h1 : i < n) : w.frozen? ⟨g, i.toNat, none⟩ = false := by
  obtain ⟨_, cur, K, hb, hK, hc⟩ := h
  simp [World.frozen?, hb]
  omega
theorem set_ (h : Buf n w g xs) (i : Int) (h0 : 0 ≤ i) (h1 : i < n) (v : Int) : Buf n (w.setCell ⟨g, i.toNat, none⟩ (.int .u8 v)) g (xs.set i.toNat v) := by
  obtain ⟨hl, cur, K, hb, hK, hc⟩ := h
  refine ⟨by rw [List.length_set]; exact hl, cur.setIfInBounds i.toNat (.int .u8 v), K, by simp [World.setCell, Array.getElem?_modify, hb], hK, fun j hj => ?_⟩
  have hi : i.toNat < cur.size := (Array.getElem?_eq_some_iff.1 (hc i.toNat (by omega))).1
  by_cases e : i.toNat = j
  · subst e
    simp [hi, hl, List.getD_eq_getElem?_getD, show i.toNat < n by omega]
  · rw [Array.getElem?_setIfInBounds_ne e, hc j hj]
    simp [List.getD_eq_getElem?_getD, List.getElem?_set_ne e]
theorem drew (h : Buf n w g xs) : Buf n w.drew g xs := h
theorem reads (h : Buf n w g xs) (hn : n ≤ 9223372036854775807) : ReadsInt w .u8 (some ⟨g, 0, none⟩) n xs :=
  ⟨h.1, hn, fun _ => ⟨_, rfl, fun j hj => by
    rw [add_plain]
    have := h.cell j (by omega) (by omega)
    simpa [rd] using this⟩⟩
theorem made (w : World) (s : ByteArray) : Buf s.size (Lib.bytesWorld w 5 s) w.heap.size (bytesOf s) := by
  refine ⟨bytesOf_length s, _, _, Lib.bytesWorld_at_new w 5 s, ?_, fun j hj => ?_⟩
  · have h2 := Lib.bytesWorld_at_new w 5 s
    rcases Nat.eq_zero_or_pos s.size with h0 | h0
    · omega
    · have h1 := Lib.bytesWorld_cell w 5 s (s.size - 1) (by omega)
      simp only [World.cell?, h2] at h1
      have := (Array.getElem?_eq_some_iff.1 h1).1
      omega
  · have h1 := Lib.bytesWorld_cell w 5 s j hj
    have h2 := Lib.bytesWorld_at_new w 5 s
    simp only [World.cell?, h2] at h1
    have h' : j < s.data.toList.length := by rw [data_length]; exact hj
    rw [show (bytesOf s).getD j 0 = ((s.data.toList.getD j 0).toNat : Int) by simp [bytesOf, List.getD_eq_getElem?_getD, List.getElem?_eq_getElem h']]
    exact h1
end Buf
/-- A text's bytes, of which so many are xor another one's. -/
def xorL (s by_ : ByteArray) : Nat → List Int
  | 0 => bytesOf s
  | k + 1 => (xorL s by_ k).set k (bits .xor .u8 (rd (xorL s by_ k) k) (bt by_ k))
theorem xorL_succ (s by_ : ByteArray) (i : Int) (h0 : 0 ≤ i) : xorL s by_ (i + 1).toNat = (xorL s by_ i.toNat).set i.toNat (bits .xor .u8 (rd (xorL s by_ i.toNat) i) (bt by_ i)) := by
  obtain ⟨n, rfl⟩ := Int.eq_ofNat_of_zero_le h0
  rw [show ((n : Int) + 1).toNat = n + 1 by omega, show ((n : Int)).toNat = n by omega]
  rfl
theorem streamI_size (key nonce : ByteArray) (n : Nat) (h : n ≤ 4096) : (streamI key nonce n).size = n := by
  unfold streamI
  simp [ByteArray.size, catI_length]
  omega
def xorI (key nonce s : ByteArray) : ByteArray := strOfNums (xorL s (streamI key nonce s.size) s.size)
def stream_Xor.f (key nonce s : ByteArray) : Option (ByteArray × Int) :=
  if mayB key nonce s.size = true then some (xorI key nonce s, 0) else if s.size ≤ 9223372036854775807 then some (⟨#[]⟩, 2) else none
theorem stream_f_no (key nonce : ByteArray) (m : Int) (h : mayB key nonce m = false) : stream_Stream.f key nonce m = some (⟨#[]⟩, 2) := by
  unfold stream_Stream.f; rw [if_neg (by rw [h]; simp)]
theorem stream_f_yes (key nonce : ByteArray) (m : Int) (h : mayB key nonce m = true) : stream_Stream.f key nonce m = some (streamI key nonce m.toNat, 0) := if_pos h
theorem xor_no (key nonce s : ByteArray) (w : World) (h : mayB key nonce s.size = false) (hs : s.size ≤ 9223372036854775807) :
    Calls Try.prog 14 #[.string key, .string nonce, .string s] w fun e w' => e = .returned (.tuple #[.string ⟨#[]⟩, .int .i64 2]) ∧ Below w.heap.size w w' := by
  replace h := Lib.hid (stream_f_no key nonce s.size h)
  go_enter Try.func14, Try.ntmps14
  go_wp2_with (go_at_call 13; refine (stream_Stream.calls _ _ _ _ _ _ h.out).mono ?_; rintro e w' ⟨rfl, hb⟩)
  go_ret2
  exact ⟨rfl, hb⟩
set_option maxHeartbeats 2000000 in
set_option maxRecDepth 100000 in
theorem xor_yes (key nonce s : ByteArray) (w : World) (h : mayB key nonce s.size = true) :
    Calls Try.prog 14 #[.string key, .string nonce, .string s] w fun e w' => e = .returned (.tuple #[.string (xorI key nonce s), .int .i64 0]) ∧ Below w.heap.size w w' := by
  obtain ⟨hk, hn, _, h1⟩ := of_decide_eq_true h
  have hs : s.size ≤ 4096 := by omega
  have hb := streamI_size key nonce s.size hs
  obtain ⟨by_, hby⟩ : ∃ b, streamI key nonce s.size = b := ⟨_, rfl⟩
  have h' := stream_f_yes key nonce s.size h
  rw [Int.toNat_natCast, hby] at h'
  replace h := Lib.hid h'
  rw [hby] at hb
  replace hby := Lib.hid hby
  have hb2 : ((by_.size : Nat) : Int) = s.size := by omega
  have hb3 : s.size ≤ by_.size := by omega
  clear h' hb h1 hk hn
  replace hb2 := Lib.hid hb2
  have kb := fun W => print_bytes (P := Try.prog) 9 50 5 Try.underlying9 Try.underlying50 Try.underlying5 s W
  go_enter Try.func14, Try.ntmps14
  go_wp2_with (go_at_call 13; refine (stream_Stream.calls _ _ _ _ _ _ h.out).mono ?_; rintro e w1 ⟨rfl, hB⟩)
  clear kb
  have hX0 : Buf s.size (Lib.bytesWorld w1 5 s) w1.heap.size (xorL s by_ 0) := Buf.made w1 s
  have hB0 : Below w.heap.size w (Lib.bytesWorld w1 5 s) := bytes_below hB hB.size 5 s
  have hg0 := hB.size
  obtain ⟨g, hg⟩ : ∃ g, w1.heap.size = g := ⟨_, rfl⟩
  obtain ⟨c, hc⟩ : ∃ c, grownCap w1 s.size 0 5 = c := ⟨_, rfl⟩
  simp only [hg, hc] at hX0 hg0 ⊢
  replace hg := Lib.hid hg
  replace hc := Lib.hid hc
  clear hB
  go_loopw [27] (fun v wr => ∃ i : Int, 0 ≤ i ∧ i ≤ s.size ∧ v = .int .i64 i ∧ Buf s.size wr g (xorL s by_ i.toNat) ∧ Below w.heap.size w wr) (fun v _ => s.size - (intOf v).toNat)
  case atStart => exact ⟨0, by omega, by omega, rfl, hX0, hB0⟩
  case round =>
    clear hX0 hB0
    obtain ⟨i, hi0, hi1, rfl, hX, hB⟩ := hrel
    by_cases hlt : i < s.size
    · have hlt2 : i < by_.size := by omega
      have HS := Lib.hid (xorL_succ s by_ i hi0)
      obtain ⟨xs, hxs⟩ : ∃ xs, xorL s by_ i.toNat = xs := ⟨_, rfl⟩
      rw [hxs] at hX HS
      clear hxs
      have hbt := bt_at by_ i
      go_wp2
      refine start_ (n := 10) (S := fun w' => w'.cell? ⟨g, i.toNat, none⟩ = some (.int .u8 (rd xs i))) (ds := [9]) #[false, false, false, false, false, false, false, false, false, false] (by kernel_rfl) rfl rfl (hX.drew.cell i hi0 hlt) (fun hHeld => ?_)
      refine pure_ (i := 0) (N := some 30) (v := ?_) (a' := ?_) #[true, false, false, false, false, false, false, false, false, false] rfl rfl (by kernel_rfl) (fun _ _ _ h => h) (Or.inl ⟨by rfl, ?_⟩) ?_ ?_
      rotate_left
      · intro w'
        go_simp
        with_reducible rfl
      rotate_left
      · simp only [Act.put, List.setIfInBounds_toArray, List.set_cons_zero, List.set_cons_succ, i64_w, i32_w]
        rfl
      refine pure_ (i := 1) (N := some 31) (v := ?_) (a' := ?_) #[true, true, false, false, false, false, false, false, false, false] rfl rfl (by kernel_rfl) (fun _ _ _ h => h) (Or.inl ⟨by rfl, ?_⟩) ?_ ?_
      rotate_left
      · intro w'
        go_simp
        with_reducible rfl
      rotate_left
      · simp only [Act.put, List.setIfInBounds_toArray, List.set_cons_zero, List.set_cons_succ, i64_w, i32_w]
        rfl
      refine pure_ (i := 2) (N := some 32) (v := ?_) (a' := ?_) #[true, true, true, false, false, false, false, false, false, false] rfl rfl (by kernel_rfl) (fun _ _ _ h => h) (Or.inl ⟨by rfl, ?_⟩) ?_ ?_
      rotate_left
      · intro w'
        go_simp
        with_reducible rfl
      rotate_left
      · simp only [Act.put, List.setIfInBounds_toArray, List.set_cons_zero, List.set_cons_succ, i64_w, i32_w]
        rfl
      refine pure_ (i := 4) (N := some 34) (v := ?_) (a' := ?_) #[true, true, true, false, true, false, false, false, false, false] rfl rfl (by kernel_rfl) (fun _ _ _ h => h) (Or.inl ⟨by rfl, ?_⟩) ?_ ?_
      rotate_left
      · intro w'
        go_simp
        with_reducible rfl
      rotate_left
      · simp only [Act.put, List.setIfInBounds_toArray, List.set_cons_zero, List.set_cons_succ, i64_w, i32_w]
        rfl
      refine pure_ (i := 5) (N := some 35) (v := ?_) (a' := ?_) #[true, true, true, false, true, true, false, false, false, false] rfl rfl (by kernel_rfl) (fun _ _ _ h => h) (Or.inl ⟨by rfl, ?_⟩) ?_ ?_
      rotate_left
      · intro w'
        go_simp
        with_reducible rfl
      rotate_left
      · simp only [Act.put, List.setIfInBounds_toArray, List.set_cons_zero, List.set_cons_succ, i64_w, i32_w]
        rfl
      refine take_ (i := 3) (N := some 33) (v := ?_) (a' := ?_) #[true, true, true, true, true, true, false, false, false, false] rfl rfl (by kernel_rfl) (fun _ _ _ h => h) (Or.inl ⟨by rfl, ?_⟩) hHeld ?_ ?_
      rotate_left
      · intro w' s0
        go_simp
        with_reducible rfl
      rotate_left
      · simp only [Act.put, List.setIfInBounds_toArray, List.set_cons_zero, List.set_cons_succ, i64_w, i32_w]
        rfl
      refine take_ (i := 6) (N := some 36) (v := ?_) (a' := ?_) #[true, true, true, true, true, true, true, false, false, false] rfl rfl (by kernel_rfl) (fun _ _ _ h => h) (Or.inl ⟨by rfl, ?_⟩) hHeld ?_ ?_
      rotate_left
      · intro w' s0
        go_simp
        with_reducible rfl
      rotate_left
      · simp only [Act.put, List.setIfInBounds_toArray, List.set_cons_zero, List.set_cons_succ, i64_w, i32_w]
        rfl
      refine pure_ (i := 7) (N := some 37) (v := ?_) (a' := ?_) #[true, true, true, true, true, true, true, true, false, false] rfl rfl (by kernel_rfl) (fun _ _ _ h => h) (Or.inl ⟨by rfl, ?_⟩) ?_ ?_
      rotate_left
      · intro w'
        go_simp
        with_reducible rfl
      rotate_left
      · simp only [Act.put, List.setIfInBounds_toArray, List.set_cons_zero, List.set_cons_succ, i64_w, i32_w]
        rfl
      refine pure_ (i := 8) (N := some 38) (v := ?_) (a' := ?_) #[true, true, true, true, true, true, true, true, true, false] rfl rfl (by kernel_rfl) (fun _ _ _ h => h) (Or.inl ⟨by rfl, ?_⟩) ?_ ?_
      rotate_left
      · intro w'
        go_simp
        with_reducible rfl
      rotate_left
      · simp only [Act.put, List.setIfInBounds_toArray, List.set_cons_zero, List.set_cons_succ, i64_w, i32_w]
        rfl
      refine last_ (i := 9) (N := none) #[true, true, true, true, true, true, true, true, true, true] rfl rfl (by kernel_rfl) (by decide) (fun K hK => ?_)
      have q_ := hX.drew.cell i hi0 hlt
      have f_ := hX.drew.free i hi0 hlt
      refine skip_ (w1 := wr.drew.setCell ⟨g, i.toNat, none⟩ (.int .u8 (bits .xor .u8 (rd xs i) (bt by_ i)))) (by rfl) rfl ?_ ?_
      · go_simp
      have hX4 := hX.drew.set_ i hi0 hlt ((bits .xor .u8 (rd xs i) (bt by_ i)))
      have gX4 := grown_trans (grown_below (pw_below_drewN (Below.refl wr.heap.size wr) 1) _) (grown_set wr.drew g i.toNat (.int .u8 (bits .xor .u8 (rd xs i) (bt by_ i))))
      clear q_ f_
      generalize wr.drew.setCell ⟨g, i.toNat, none⟩ (.int .u8 (bits .xor .u8 (rd xs i) (bt by_ i))) = w5 at hX4 gX4 ⊢
      refine hK.out _ _ ?_
      clear hK K
      refine done_ (by kernel_rfl) ?_
      have hX5 : Buf s.size w5 g (xorL s by_ (i + 1).toNat) := by rw [HS.out]; exact hX4
      have hB5 : Below w.heap.size w w5 := pw_below_grown hB _ hB.size gX4 (by simpa using hg0)
      clear HS hX4 gX4 hX hB hHeld hbt
      go_wp2
      go_roundw
      case rel => exact ⟨i + 1, by omega, by omega, by go_num, hX5, hB5⟩
      case measure => simp [intOf]; omega
    · obtain rfl : i = s.size := by omega
      have hst := string_of_reads (P := Try.prog) (src := 50) (dst := 9) (w := wr) (c := c) Try.underlying50 Try.underlying5 Try.underlying9 (hX.reads (by omega))
      go_wp2
      go_ret2
      have e1 := hby.out
      exact ⟨by unfold xorI; rw [e1]; rfl, hB⟩
theorem stream_Xor.calls (a0 : ByteArray) (a1 : ByteArray) (a2 : ByteArray) (r1 : ByteArray) (r2 : Int) (w : World) (h : stream_Xor.f a0 a1 a2 = some (r1, r2)) :
    Calls Try.prog 14 #[.string a0, .string a1, .string a2] w fun e w' => e = .returned (.tuple #[.string r1, .int .i64 r2]) ∧ Below w.heap.size w w' := by
  unfold stream_Xor.f at h
  cases hb : mayB a0 a1 a2.size with
  | true =>
    rw [if_pos hb] at h
    injection h with h
    injection h with h1 h2
    subst h1 h2
    exact xor_yes a0 a1 a2 w hb
  | false =>
    rw [if_neg (by rw [hb]; simp)] at h
    split at h
    case isFalse => cases h
    case isTrue hs =>
      injection h with h
      injection h with h1 h2
      subst h1 h2
      exact xor_no a0 a1 a2 w hb hs
end Go.Proofs.Ytioafoilinhmjaa.Q
