/- stream.block answers the sixty-four bytes of a block.
   Conditions: the key has 32 bytes, the nonce 12. -/
import Derived.Test.YtioafoilinhmjaaHMix
import Derived.Test.YtioafoilinhmjaaHLoad
namespace Go.Proofs.Ytioafoilinhmjaa.Q
open Go.RowKit Go.Proofs.YtioafoilinhmjaaW.PrintWords Go.Proofs.YtioafoilinhmjaaW.PrintLast Go.Proofs.YtioafoilinhmjaaW.PrintMore
set_option linter.unusedVariables false
set_option linter.unusedSimpArgs false

/-- The words of a block, ahead of the mixing. -/
def first0 : List Int := [1634760805, 857760878, 2036477234, 1797285236, 0, 0, 0, 0, 0, 0, 0, 0, 0, 0, 0, 0]
def firstI (key : ByteArray) (n : Int) (nonce : ByteArray) : List Int := loadI 13 nonce nonce.size ((loadI 4 key key.size first0).set 12 n)
/-- Eight mixings. -/
def roundI (xs : List Int) : List Int :=
  mixI (mixI (mixI (mixI (mixI (mixI (mixI (mixI xs 0 4 8 12) 1 5 9 13) 2 6 10 14) 3 7 11 15) 0 5 10 15) 1 6 11 12) 2 7 8 13) 3 4 9 14
def roundsI : Nat → List Int → List Int
  | 0, xs => xs
  | k + 1, xs => roundI (roundsI k xs)

theorem list16 {xs : List Int} (h : xs.length = 16) : ∃ x0 x1 x2 x3 x4 x5 x6 x7 x8 x9 x10 x11 x12 x13 x14 x15, xs = [x0, x1, x2, x3, x4, x5, x6, x7, x8, x9, x10, x11, x12, x13, x14, x15] := by
  match xs, h with
  | [x0, x1, x2, x3, x4, x5, x6, x7, x8, x9, x10, x11, x12, x13, x14, x15], _ => exact ⟨x0, x1, x2, x3, x4, x5, x6, x7, x8, x9, x10, x11, x12, x13, x14, x15, rfl⟩

/-- Byte number i of a block: of its words F ahead of the mixing, X behind it. -/
def byteV (F X : List Int) (i : Int) : Int := IntKind.u8.wrap (IntKind.u32.wrap (rd X (i / 4) + rd F (i / 4)) / 2 ^ (8 * (i % 4)).toNat)
def outI (F X : List Int) : Nat → List Int
  | 0 => List.replicate 64 0
  | k + 1 => (outI F X k).set k (byteV F X k)
theorem outI_succ (F X : List Int) (i q m : Int) (h0 : 0 ≤ i) (hq : Hid (q = i / 4)) (hm : Hid (m = 8 * (i % 4))) :
    outI F X (i + 1).toNat = (outI F X i.toNat).set i.toNat (IntKind.u8.wrap (IntKind.u32.wrap (rd X q + rd F q) / 2 ^ m.toNat)) := by
  obtain ⟨n, rfl⟩ := Int.eq_ofNat_of_zero_le h0
  rw [hq.out, hm.out, show ((n : Int) + 1).toNat = n + 1 by omega, show ((n : Int)).toNat = n by omega]
  rfl
/-- A block. -/
def blockI (key : ByteArray) (n : Int) (nonce : ByteArray) : ByteArray := strOfNums (outI (firstI key n nonce) (roundsI 10 (firstI key n nonce)) 64)
def stream_block.f (key : ByteArray) (n : Int) (nonce : ByteArray) : Option ByteArray := if key.size = 32 ∧ nonce.size = 12 then some (blockI key n nonce) else none
def Three (w0 : World) (g0 g1 g2 : Nat) (F X O : List Int) (w : World) : Prop :=
  Two w0 g0 g1 F X w ∧ ArrI .u8 65 64 w g2 O ∧ g2 ≠ g0 ∧ g2 ≠ g1 ∧ w0.heap.size ≤ g2
theorem three_set {w0 w w' : World} {g0 g1 g2 : Nat} {F X O O' : List Int} (hT : Two w0 g0 g1 F X w) (hZ : ArrI .u8 65 64 w g2 O) (h0 : g2 ≠ g0) (h1 : g2 ≠ g1) (hle : w0.heap.size ≤ g2)
    (hZ' : ArrI .u8 65 64 w' g2 O') (hg : w.grownBy w' (some g2)) : Three w0 g0 g1 g2 F X O' w' := by
  obtain ⟨hA, hF, hB, hne, hl⟩ := hT
  refine ⟨⟨hA.grown hg (fun e => h1 (Option.some.inj e).symm), hF.grown hg (fun e => h0 (Option.some.inj e).symm), pw_below_grown hB _ hB.size hg (fun k hk => ?_), hne, hl⟩, hZ', h0, h1, hle⟩
  injection hk with hk
  omega
theorem arr_reads {k : IntKind} {t n g : Nat} {w : World} {xs : List Int} (h : ArrI k t n w g xs) (hn : n ≤ 9223372036854775807) : ReadsInt w k (some ⟨g, 0, none⟩) n xs :=
  ⟨h.1, hn, fun _ => ⟨_, rfl, fun j hj => by
    rw [add_plain]
    have := h.cell j (by omega) (by omega)
    simpa [rd] using this⟩⟩

set_option maxHeartbeats 4000000 in
set_option maxRecDepth 100000 in
theorem stream_block.calls (key : ByteArray) (n : Int) (nonce : ByteArray) (r : ByteArray) (w : World) (h : stream_block.f key n nonce = some r) :
    Calls Try.prog 19 #[.string key, .int .u32 n, .string nonce] w fun e w' => e = .returned (.string r) ∧ Below w.heap.size w w' := by
  obtain ⟨hk, hn, hr⟩ : key.size = 32 ∧ nonce.size = 12 ∧ some (blockI key n nonce) = some r := by
    unfold stream_block.f at h
    split at h
    · rename_i hc; exact ⟨hc.1, hc.2, h⟩
    · cases h
  replace hr := Lib.hid hr
  clear h
  have hk1 : (4 : Int) * 4 + key.size ≤ 64 := by omega
  have hn1 : (13 : Int) * 4 + nonce.size ≤ 64 := by omega
  clear hk hn
  go_enter Try.func19, Try.ntmps19
  go_wp2_with fail
  refine (load_calls w.heap.size first0 4 key _ ⟨rfl, heap_alloc_new w _⟩ (by omega) hk1).mono ?_
  rintro e w2 ⟨rfl, hA2, g2⟩
  have hB2 : Below w.heap.size w w2 := pw_below_grown (below_alloc (Below.refl _ _) _) _ (by simp) g2 (by simp)
  have c2 := hA2.cell 12 (by omega) (by omega)
  have f2 := hA2.free 12
  simp only [Int.reduceToNat] at c2
  have hA3 := hA2.set_ 12 n
  have g3 := grown_set w2 w.heap.size 12 (.int .u32 n)
  go_wp2_with fail
  clear c2 f2
  refine (load_calls w.heap.size _ 13 nonce _ hA3 (by omega) hn1).mono ?_
  rintro e w4 ⟨rfl, hA4, g4⟩
  have hB4 : Below w.heap.size w w4 := pw_below_grown (pw_below_grown hB2 _ hB2.size g3 (by simp)) _ (Nat.le_trans hB2.size (by simp)) g4 (by simp)
  clear hB2 g2 g3 hA2 hA3 g4
  obtain ⟨xs, hxs⟩ : ∃ xs, loadI 13 nonce nonce.size ((loadI 4 key key.size first0).set 12 n) = xs := ⟨_, rfl⟩
  rw [hxs] at hA4
  replace hxs := Lib.hid hxs
  obtain ⟨x0, x1, x2, x3, x4, x5, x6, x7, x8, x9, x10, x11, x12, x13, x14, x15, rfl⟩ := list16 hA4.1
  go_wp2_with (refine wpList_load_row rfl 62 _ rfl w.heap.size rfl 62 _ (0, 0) _ hA4.2 Try.underlying62 rfl (by kernel_rfl) ?_; simp only [nums, List.map_cons, List.map_nil])
  have hlt := hA4.lt
  have hT0 : Two w w.heap.size w4.heap.size [x0, x1, x2, x3, x4, x5, x6, x7, x8, x9, x10, x11, x12, x13, x14, x15] (roundsI 0 [x0, x1, x2, x3, x4, x5, x6, x7, x8, x9, x10, x11, x12, x13, x14, x15]) (w4.alloc (.cells #[.int .u32 x0, .int .u32 x1, .int .u32 x2, .int .u32 x3, .int .u32 x4, .int .u32 x5, .int .u32 x6, .int .u32 x7, .int .u32 x8, .int .u32 x9, .int .u32 x10, .int .u32 x11, .int .u32 x12, .int .u32 x13, .int .u32 x14, .int .u32 x15] 62)) :=
    ⟨⟨rfl, heap_alloc_new w4 _⟩, hA4.below (below_alloc (Below.refl _ _) _), hB4.alloc (Nat.le_of_lt hlt) _, by omega, by omega⟩
  clear hA4 hB4
  go_loopw [21] (fun v wr => ∃ k : Nat, k ≤ 10 ∧ v = .int .i64 k ∧ Two w w.heap.size w4.heap.size [x0, x1, x2, x3, x4, x5, x6, x7, x8, x9, x10, x11, x12, x13, x14, x15] (roundsI k [x0, x1, x2, x3, x4, x5, x6, x7, x8, x9, x10, x11, x12, x13, x14, x15]) wr) (fun v _ => 10 - (intOf v).toNat)
  case atStart => exact ⟨0, by omega, rfl, hT0⟩
  case round =>
    clear hT0
    obtain ⟨k, hk, rfl, hT⟩ := hrel
    by_cases hk10 : k < 10
    · obtain ⟨X, hX⟩ : ∃ X, roundsI k [x0, x1, x2, x3, x4, x5, x6, x7, x8, x9, x10, x11, x12, x13, x14, x15] = X := ⟨_, rfl⟩
      rw [hX] at hT
      replace hX := Lib.hid hX
      go_wp2_with fail
      refine wp_loop_rounds 5 ?_
      iterate 5 (rw [rounds_succ]; go_wp2_with (go_at_call 27; refine (mix_two _ _ _ _ _ _ _ _ _ _ (by assumption) (by omega) (by omega) (by omega) (by omega) (by omega) (by omega) (by omega) (by omega)).mono ?_; rintro e w' ⟨rfl, hT⟩))
      refine wp_loop_rounds 5 ?_
      iterate 5 (rw [rounds_succ]; go_wp2_with (go_at_call 27; refine (mix_two _ _ _ _ _ _ _ _ _ _ (by assumption) (by omega) (by omega) (by omega) (by omega) (by omega) (by omega) (by omega) (by omega)).mono ?_; rintro e w' ⟨rfl, hT⟩))
      go_roundw
      case rel => exact ⟨k + 1, by omega, by go_num, by rw [show roundsI (k + 1) [x0, x1, x2, x3, x4, x5, x6, x7, x8, x9, x10, x11, x12, x13, x14, x15] = roundI X from congrArg roundI hX.out]; exact hT⟩
      case measure => simp [intOf]; omega
    · obtain rfl : k = 10 := by omega
      obtain ⟨X, hX⟩ : ∃ X, roundsI 10 [x0, x1, x2, x3, x4, x5, x6, x7, x8, x9, x10, x11, x12, x13, x14, x15] = X := ⟨_, rfl⟩
      obtain ⟨F, hF⟩ : ∃ F, [x0, x1, x2, x3, x4, x5, x6, x7, x8, x9, x10, x11, x12, x13, x14, x15] = F := ⟨_, rfl⟩
      rw [hX, hF] at hT
      replace hX := Lib.hid hX
      replace hF := Lib.hid hF
      go_wp2_with fail
      have hO0 : Three w w.heap.size w4.heap.size wr.heap.size F X (outI F X 0) (wr.alloc (.cells #[.int .u8 0, .int .u8 0, .int .u8 0, .int .u8 0, .int .u8 0, .int .u8 0, .int .u8 0, .int .u8 0, .int .u8 0, .int .u8 0, .int .u8 0, .int .u8 0, .int .u8 0, .int .u8 0, .int .u8 0, .int .u8 0, .int .u8 0, .int .u8 0, .int .u8 0, .int .u8 0, .int .u8 0, .int .u8 0, .int .u8 0, .int .u8 0, .int .u8 0, .int .u8 0, .int .u8 0, .int .u8 0, .int .u8 0, .int .u8 0, .int .u8 0, .int .u8 0, .int .u8 0, .int .u8 0, .int .u8 0, .int .u8 0, .int .u8 0, .int .u8 0, .int .u8 0, .int .u8 0, .int .u8 0, .int .u8 0, .int .u8 0, .int .u8 0, .int .u8 0, .int .u8 0, .int .u8 0, .int .u8 0, .int .u8 0, .int .u8 0, .int .u8 0, .int .u8 0, .int .u8 0, .int .u8 0, .int .u8 0, .int .u8 0, .int .u8 0, .int .u8 0, .int .u8 0, .int .u8 0, .int .u8 0, .int .u8 0, .int .u8 0, .int .u8 0] 65)) := ⟨⟨hT.1.below (below_alloc (Below.refl _ _) _), hT.2.1.below (below_alloc (Below.refl _ _) _), hT.2.2.1.alloc hT.2.2.1.size _, hT.2.2.2⟩, ⟨rfl, heap_alloc_new wr _⟩, Nat.ne_of_gt hT.2.1.lt, Nat.ne_of_gt hT.1.lt, hT.2.2.1.size⟩
      obtain ⟨g2, hg2⟩ : ∃ g2, wr.heap.size = g2 := ⟨_, rfl⟩
      obtain ⟨g1, hg1⟩ : ∃ g1, w4.heap.size = g1 := ⟨_, rfl⟩
      obtain ⟨g0, hg0⟩ : ∃ g0, w.heap.size = g0 := ⟨_, rfl⟩
      simp only [hg0, hg1, hg2] at hO0 hT ⊢
      replace hg0 := Lib.hid hg0
      replace hg1 := Lib.hid hg1
      replace hg2 := Lib.hid hg2
      clear hT
      go_loopw [54] (fun v wr => ∃ i : Int, 0 ≤ i ∧ i ≤ 64 ∧ v = .int .i64 i ∧ Three w g0 g1 g2 F X (outI F X i.toNat) wr) (fun v _ => 64 - (intOf v).toNat)
      case atStart => exact ⟨0, by omega, by omega, rfl, hO0⟩
      case round =>
        clear hO0
        obtain ⟨i, hi0, hi1, rfl, hO⟩ := hrel
        by_cases hi64 : i < 64
        · obtain ⟨q, hq⟩ : ∃ q : Int, wrap64 (i.tdiv 4) = q := ⟨_, rfl⟩
          obtain ⟨m, hm⟩ : ∃ m : Int, wrap64 (8 * i.tmod 4) = m := ⟨_, rfl⟩
          have hq' : q = i / 4 := by rw [← hq, Int.tdiv_eq_ediv_of_nonneg hi0]; unfold wrap64; omega
          have hm' : m = 8 * (i % 4) := by rw [← hm, Int.tmod_eq_emod_of_nonneg hi0]; unfold wrap64; omega
          have hq0 : 0 ≤ q := by omega
          have hq1 : q < 16 := by omega
          have hm0 : 0 ≤ m := by omega
          have hm1 : m ≤ 24 := by omega
          replace hq' := Lib.hid hq'
          replace hm' := Lib.hid hm'
          have HS := Lib.hid (outI_succ F X i q m hi0 hq' hm')
          obtain ⟨ys, hys⟩ : ∃ ys, outI F X i.toNat = ys := ⟨_, rfl⟩
          rw [hys] at hO HS
          clear hys
          obtain ⟨hT, hZ, hn0, hn1, hle⟩ := hO
          go_wp2
          refine start_ (n := 17) (S := fun w' => w'.cell? ⟨g1, q.toNat, none⟩ = some (.int .u32 (rd X q)) ∧ w'.cell? ⟨g0, q.toNat, none⟩ = some (.int .u32 (rd F q))) (ds := [16]) #[false, false, false, false, false, false, false, false, false, false, false, false, false, false, false, false, false] (by kernel_rfl) rfl rfl ⟨hT.1.drew.cell q hq0 hq1, hT.2.1.drew.cell q hq0 hq1⟩ (fun hHeld => ?_)
          refine pure_ (i := 0) (N := some 57) (v := ?_) (a' := ?_) #[true, false, false, false, false, false, false, false, false, false, false, false, false, false, false, false, false] rfl rfl (by kernel_rfl) (fun _ _ _ h => h) (Or.inl ⟨by rfl, ?_⟩) ?_ ?_
          rotate_left
          · intro w'
            go_simp
            with_reducible rfl
          rotate_left
          · simp only [Act.put, List.setIfInBounds_toArray, List.set_cons_zero, List.set_cons_succ, i64_w, i32_w]
            rfl
          refine pure_ (i := 1) (N := some 58) (v := ?_) (a' := ?_) #[true, true, false, false, false, false, false, false, false, false, false, false, false, false, false, false, false] rfl rfl (by kernel_rfl) (fun _ _ _ h => h) (Or.inl ⟨by rfl, ?_⟩) ?_ ?_
          rotate_left
          · intro w'
            go_simp
            with_reducible rfl
          rotate_left
          · simp only [Act.put, List.setIfInBounds_toArray, List.set_cons_zero, List.set_cons_succ, i64_w, i32_w]
            rfl
          refine pure_ (i := 2) (N := some 59) (v := ?_) (a' := ?_) #[true, true, true, false, false, false, false, false, false, false, false, false, false, false, false, false, false] rfl rfl (by kernel_rfl) (fun _ _ _ h => h) (Or.inl ⟨by rfl, ?_⟩) ?_ ?_
          rotate_left
          · intro w'
            go_simp
            with_reducible rfl
          rotate_left
          · simp only [Act.put, List.setIfInBounds_toArray, List.set_cons_zero, List.set_cons_succ, i64_w, i32_w]
            rfl
          refine pure_ (i := 3) (N := some 60) (v := ?_) (a' := ?_) #[true, true, true, true, false, false, false, false, false, false, false, false, false, false, false, false, false] rfl rfl (by kernel_rfl) (fun _ _ _ h => h) (Or.inl ⟨by rfl, ?_⟩) ?_ ?_
          rotate_left
          · intro w'
            go_simp
            with_reducible rfl
          rotate_left
          · simp only [Act.put, List.setIfInBounds_toArray, List.set_cons_zero, List.set_cons_succ, i64_w, i32_w]
            rfl
          refine pure_ (i := 5) (N := some 62) (v := ?_) (a' := ?_) #[true, true, true, true, false, true, false, false, false, false, false, false, false, false, false, false, false] rfl rfl (by kernel_rfl) (fun _ _ _ h => h) (Or.inl ⟨by rfl, ?_⟩) ?_ ?_
          rotate_left
          · intro w'
            go_simp
            with_reducible rfl
          rotate_left
          · simp only [Act.put, List.setIfInBounds_toArray, List.set_cons_zero, List.set_cons_succ, i64_w, i32_w]
            rfl
          refine pure_ (i := 6) (N := some 63) (v := ?_) (a' := ?_) #[true, true, true, true, false, true, true, false, false, false, false, false, false, false, false, false, false] rfl rfl (by kernel_rfl) (fun _ _ _ h => h) (Or.inl ⟨by rfl, ?_⟩) ?_ ?_
          rotate_left
          · intro w'
            go_simp
            with_reducible rfl
          rotate_left
          · simp only [Act.put, List.setIfInBounds_toArray, List.set_cons_zero, List.set_cons_succ, i64_w, i32_w]
            rfl
          refine pure_ (i := 7) (N := some 64) (v := ?_) (a' := ?_) #[true, true, true, true, false, true, true, true, false, false, false, false, false, false, false, false, false] rfl rfl (by kernel_rfl) (fun _ _ _ h => h) (Or.inl ⟨by rfl, ?_⟩) ?_ ?_
          rotate_left
          · intro w'
            go_simp
            with_reducible rfl
          rotate_left
          · simp only [Act.put, List.setIfInBounds_toArray, List.set_cons_zero, List.set_cons_succ, i64_w, i32_w]
            rfl
          refine pure_ (i := 10) (N := some 67) (v := ?_) (a' := ?_) #[true, true, true, true, false, true, true, true, false, false, true, false, false, false, false, false, false] rfl rfl (by kernel_rfl) (fun _ _ _ h => h) (Or.inl ⟨by rfl, ?_⟩) ?_ ?_
          rotate_left
          · intro w'
            go_simp
            with_reducible rfl
          rotate_left
          · simp only [Act.put, List.setIfInBounds_toArray, List.set_cons_zero, List.set_cons_succ, i64_w, i32_w]
            rfl
          refine pure_ (i := 11) (N := some 68) (v := ?_) (a' := ?_) #[true, true, true, true, false, true, true, true, false, false, true, true, false, false, false, false, false] rfl rfl (by kernel_rfl) (fun _ _ _ h => h) (Or.inl ⟨by rfl, ?_⟩) ?_ ?_
          rotate_left
          · intro w'
            go_simp
            with_reducible rfl
          rotate_left
          · simp only [Act.put, List.setIfInBounds_toArray, List.set_cons_zero, List.set_cons_succ, i64_w, i32_w]
            rfl
          refine pure_ (i := 12) (N := some 69) (v := ?_) (a' := ?_) #[true, true, true, true, false, true, true, true, false, false, true, true, true, false, false, false, false] rfl rfl (by kernel_rfl) (fun _ _ _ h => h) (Or.inl ⟨by rfl, ?_⟩) ?_ ?_
          rotate_left
          · intro w'
            go_simp
            with_reducible rfl
          rotate_left
          · simp only [Act.put, List.setIfInBounds_toArray, List.set_cons_zero, List.set_cons_succ, i64_w, i32_w]
            rfl
          refine take_ (i := 4) (N := some 61) (v := ?_) (a' := ?_) #[true, true, true, true, true, true, true, true, false, false, true, true, true, false, false, false, false] rfl rfl (by kernel_rfl) (fun _ _ _ h => h) (Or.inl ⟨by rfl, ?_⟩) hHeld ?_ ?_
          rotate_left
          · rintro w' ⟨s0, s1⟩
            go_simp
            with_reducible rfl
          rotate_left
          · simp only [Act.put, List.setIfInBounds_toArray, List.set_cons_zero, List.set_cons_succ, i64_w, i32_w]
            rfl
          refine take_ (i := 8) (N := some 65) (v := ?_) (a' := ?_) #[true, true, true, true, true, true, true, true, true, false, true, true, true, false, false, false, false] rfl rfl (by kernel_rfl) (fun _ _ _ h => h) (Or.inl ⟨by rfl, ?_⟩) hHeld ?_ ?_
          rotate_left
          · rintro w' ⟨s0, s1⟩
            go_simp
            with_reducible rfl
          rotate_left
          · simp only [Act.put, List.setIfInBounds_toArray, List.set_cons_zero, List.set_cons_succ, i64_w, i32_w]
            rfl
          refine pure_ (i := 9) (N := some 66) (v := ?_) (a' := ?_) #[true, true, true, true, true, true, true, true, true, true, true, true, true, false, false, false, false] rfl rfl (by kernel_rfl) (fun _ _ _ h => h) (Or.inl ⟨by rfl, ?_⟩) ?_ ?_
          rotate_left
          · intro w'
            go_simp
            with_reducible rfl
          rotate_left
          · simp only [Act.put, List.setIfInBounds_toArray, List.set_cons_zero, List.set_cons_succ, i64_w, i32_w]
            rfl
          refine pure_ (i := 13) (N := some 70) (v := ?_) (a' := ?_) #[true, true, true, true, true, true, true, true, true, true, true, true, true, true, false, false, false] rfl rfl (by kernel_rfl) (fun _ _ _ h => h) (Or.inl ⟨by rfl, ?_⟩) ?_ ?_
          rotate_left
          · intro w'
            go_simp
            with_reducible rfl
          rotate_left
          · simp only [Act.put, List.setIfInBounds_toArray, List.set_cons_zero, List.set_cons_succ, i64_w, i32_w]
            rfl
          refine pure_ (i := 14) (N := some 71) (v := ?_) (a' := ?_) #[true, true, true, true, true, true, true, true, true, true, true, true, true, true, true, false, false] rfl rfl (by kernel_rfl) (fun _ _ _ h => h) (Or.inl ⟨by rfl, ?_⟩) ?_ ?_
          rotate_left
          · intro w'
            go_simp
            with_reducible rfl
          rotate_left
          · simp only [Act.put, List.setIfInBounds_toArray, List.set_cons_zero, List.set_cons_succ, i64_w, i32_w]
            rfl
          refine pure_ (i := 15) (N := some 72) (v := ?_) (a' := ?_) #[true, true, true, true, true, true, true, true, true, true, true, true, true, true, true, true, false] rfl rfl (by kernel_rfl) (fun _ _ _ h => h) (Or.inl ⟨by rfl, ?_⟩) ?_ ?_
          rotate_left
          · intro w'
            go_simp
            with_reducible rfl
          rotate_left
          · simp only [Act.put, List.setIfInBounds_toArray, List.set_cons_zero, List.set_cons_succ, i64_w, i32_w]
            rfl
          refine last_ (i := 16) (N := none) #[true, true, true, true, true, true, true, true, true, true, true, true, true, true, true, true, true] rfl rfl (by kernel_rfl) (by decide) (fun K hK => ?_)
          have q_ := hZ.drew.cell i hi0 hi64
          have f_ := hZ.drew.free i.toNat
          refine skip_ (w1 := wr.drew.setCell ⟨g2, i.toNat, none⟩ (.int .u8 (IntKind.u8.wrap (IntKind.u32.wrap (rd X q + rd F q) / 2 ^ m.toNat)))) (by rfl) rfl ?_ ?_
          · go_simp
          have hZ4 := hZ.drew.set_ i.toNat ((IntKind.u8.wrap (IntKind.u32.wrap (rd X q + rd F q) / 2 ^ m.toNat)))
          have gZ4 := grown_trans (grown_below (pw_below_drewN (Below.refl wr.heap.size wr) 1) _) (grown_set wr.drew g2 i.toNat (.int .u8 (IntKind.u8.wrap (IntKind.u32.wrap (rd X q + rd F q) / 2 ^ m.toNat))))
          clear q_ f_
          generalize wr.drew.setCell ⟨g2, i.toNat, none⟩ (.int .u8 (IntKind.u8.wrap (IntKind.u32.wrap (rd X q + rd F q) / 2 ^ m.toNat))) = w5 at hZ4 gZ4 ⊢
          refine hK.out _ _ ?_
          clear hK K
          refine done_ (by kernel_rfl) ?_
          clear hq hm hHeld
          have hT4 : Three w g0 g1 g2 F X (outI F X (i + 1).toNat) w5 := by rw [HS.out]; exact three_set hT hZ hn0 hn1 hle hZ4 gZ4
          clear HS hT hZ gZ4 hZ4
          go_wp2
          go_roundw
          case rel => exact ⟨i + 1, by omega, by omega, by go_num, hT4⟩
          case measure => simp [intOf]; omega
        · obtain rfl : i = 64 := by omega
          obtain ⟨hT, hZ, hn0, hn1, hle⟩ := hO
          have hst := string_of_reads (P := Try.prog) (src := 50) (dst := 9) (w := wr) (n := 64) (c := 64) Try.underlying50 Try.underlying5 Try.underlying9 (arr_reads hZ (by omega))
          go_wp2
          go_ret
          refine ⟨?_, hT.2.2.1⟩
          have e1 := hX.out
          have e2 := hF.out
          have e3 := hxs.out
          rw [← Option.some.inj hr.out]
          unfold blockI
          unfold firstI
          rw [e3, e1, e2]
          rfl
end Go.Proofs.Ytioafoilinhmjaa.Q
