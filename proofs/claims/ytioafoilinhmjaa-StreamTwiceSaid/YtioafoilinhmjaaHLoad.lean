/- (*words).load lays the bytes of a text into the sixteen words, the lowest first.
   Conditions: the receiver points at sixteen words; the text's words lie in them. -/
import Derived.Test.YtioafoilinhmjaaHArr
import Derived.Lib.Hide
namespace Go.Proofs.Ytioafoilinhmjaa.Q
open Go.RowKit Go.Proofs.YtioafoilinhmjaaW.PrintWords Go.Proofs.YtioafoilinhmjaaW.PrintLast Go.Proofs.YtioafoilinhmjaaW.PrintMore
set_option linter.unusedVariables false
set_option linter.unusedSimpArgs false

/-- Byte number i of a text, at its place in its word. -/
def loadV (s : ByteArray) (i : Int) : Int := IntKind.u32.wrap (IntKind.u32.wrap (bt s i) * 2 ^ (8 * (i % 4)).toNat)
/-- So many bytes of a text are laid, from word p on. -/
def loadI (p : Int) (s : ByteArray) : Nat → List Int → List Int
  | 0, xs => xs
  | n + 1, xs => (loadI p s n xs).set (p + (n : Int) / 4).toNat (bits .or .u32 (rd (loadI p s n xs) (p + (n : Int) / 4)) (loadV s n))
theorem loadI_succ (p : Int) (s : ByteArray) (xs : List Int) (i q a m : Int) (h0 : 0 ≤ i) (hq : Hid (q = i / 4)) (ha : Hid (a = p + i / 4)) (hm : Hid (m = 8 * (i % 4))) :
    loadI p s (i + 1).toNat xs = (loadI p s i.toNat xs).set a.toNat (bits .or .u32 (rd (loadI p s i.toNat xs) a) (IntKind.u32.wrap (IntKind.u32.wrap (bt s i) * 2 ^ m.toNat))) := by
  obtain ⟨n, rfl⟩ := Int.eq_ofNat_of_zero_le h0
  rw [ha.out, hm.out, show ((n : Int) + 1).toNat = n + 1 by omega, show ((n : Int)).toNat = n by omega]
  rfl

set_option maxHeartbeats 4000000 in
set_option maxRecDepth 100000 in
theorem load_calls (g : Nat) (xs : List Int) (p : Int) (s : ByteArray) (w : World) (hA : ArrI .u32 62 16 w g xs)
    (hp : 0 ≤ p) (hs : p * 4 + s.size ≤ 64) :
    Calls Try.prog 26 #[.pointer (some ⟨g, 0, none⟩), .int .i64 p, .string s] w fun e w' => e = .returned (.tuple #[]) ∧ ArrI .u32 62 16 w' g (loadI p s s.size xs) ∧ w.grownBy w' (some g) := by
  go_enter Try.func26, Try.ntmps26
  go_wp2
  go_loopw [9] (fun v wr => ∃ i : Int, 0 ≤ i ∧ i ≤ s.size ∧ v = .int .i64 i ∧ ArrI .u32 62 16 wr g (loadI p s i.toNat xs) ∧ w.grownBy wr (some g)) (fun v wr => s.size - (intOf v).toNat)
  case atStart => exact ⟨0, by omega, by omega, rfl, hA, grown_below (Below.refl _ _) _⟩
  case round =>
    obtain ⟨i, hi0, hi1, rfl, hA, hG⟩ := hrel
    by_cases hlt : i < s.size
    · obtain ⟨q, hq⟩ : ∃ q : Int, wrap64 (i.tdiv 4) = q := ⟨_, rfl⟩
      obtain ⟨a, ha⟩ : ∃ a : Int, wrap64 (p + q) = a := ⟨_, rfl⟩
      obtain ⟨m, hm⟩ : ∃ m : Int, wrap64 (8 * i.tmod 4) = m := ⟨_, rfl⟩
      have hq' : q = i / 4 := by rw [← hq, Int.tdiv_eq_ediv_of_nonneg hi0]; unfold wrap64; omega
      have ha' : a = p + i / 4 := by rw [← ha, hq']; unfold wrap64; omega
      have hm' : m = 8 * (i % 4) := by rw [← hm, Int.tmod_eq_emod_of_nonneg hi0]; unfold wrap64; omega
      have ha0 : 0 ≤ a := by omega
      have ha1 : a < 16 := by omega
      have hm0 : 0 ≤ m := by omega
      have hm1 : m ≤ 24 := by omega
      have hbt := bt_at s i
      replace hq' := Lib.hid hq'
      replace ha' := Lib.hid ha'
      replace hm' := Lib.hid hm'
      have HS := Lib.hid (loadI_succ p s xs i q a m hi0 hq' ha' hm')
      obtain ⟨ys, hys⟩ : ∃ ys, loadI p s i.toNat xs = ys := ⟨_, rfl⟩
      rw [hys] at hA HS
      clear hys
      go_wp2
      refine start_ (n := 20) (S := fun w' => w'.cell? ⟨g, a.toNat, none⟩ = some (.int .u32 (rd ys a))) (ds := [19]) #[false, false, false, false, false, false, false, false, false, false, false, false, false, false, false, false, false, false, false, false] (by kernel_rfl) rfl rfl (hA.drew.cell a ha0 ha1) (fun hHeld => ?_)
      refine pure_ (i := 0) (N := some 12) (v := ?_) (a' := ?_) #[true, false, false, false, false, false, false, false, false, false, false, false, false, false, false, false, false, false, false, false] rfl rfl (by kernel_rfl) (fun _ _ _ h => h) (Or.inl ⟨by rfl, ?_⟩) ?_ ?_
      rotate_left
      · intro w'
        go_simp
        with_reducible rfl
      rotate_left
      · simp only [Act.put, List.setIfInBounds_toArray, List.set_cons_zero, List.set_cons_succ, i64_w, i32_w]
        rfl
      refine pure_ (i := 1) (N := some 13) (v := ?_) (a' := ?_) #[true, true, false, false, false, false, false, false, false, false, false, false, false, false, false, false, false, false, false, false] rfl rfl (by kernel_rfl) (fun _ _ _ h => h) (Or.inl ⟨by rfl, ?_⟩) ?_ ?_
      rotate_left
      · intro w'
        go_simp
        with_reducible rfl
      rotate_left
      · simp only [Act.put, List.setIfInBounds_toArray, List.set_cons_zero, List.set_cons_succ, i64_w, i32_w]
        rfl
      refine pure_ (i := 2) (N := some 14) (v := ?_) (a' := ?_) #[true, true, true, false, false, false, false, false, false, false, false, false, false, false, false, false, false, false, false, false] rfl rfl (by kernel_rfl) (fun _ _ _ h => h) (Or.inl ⟨by rfl, ?_⟩) ?_ ?_
      rotate_left
      · intro w'
        go_simp
        with_reducible rfl
      rotate_left
      · simp only [Act.put, List.setIfInBounds_toArray, List.set_cons_zero, List.set_cons_succ, i64_w, i32_w]
        rfl
      refine pure_ (i := 3) (N := some 15) (v := ?_) (a' := ?_) #[true, true, true, true, false, false, false, false, false, false, false, false, false, false, false, false, false, false, false, false] rfl rfl (by kernel_rfl) (fun _ _ _ h => h) (Or.inl ⟨by rfl, ?_⟩) ?_ ?_
      rotate_left
      · intro w'
        go_simp
        with_reducible rfl
      rotate_left
      · simp only [Act.put, List.setIfInBounds_toArray, List.set_cons_zero, List.set_cons_succ, i64_w, i32_w]
        rfl
      refine pure_ (i := 4) (N := some 16) (v := ?_) (a' := ?_) #[true, true, true, true, true, false, false, false, false, false, false, false, false, false, false, false, false, false, false, false] rfl rfl (by kernel_rfl) (fun _ _ _ h => h) (Or.inl ⟨by rfl, ?_⟩) ?_ ?_
      rotate_left
      · intro w'
        go_simp
        with_reducible rfl
      rotate_left
      · simp only [Act.put, List.setIfInBounds_toArray, List.set_cons_zero, List.set_cons_succ, i64_w, i32_w]
        rfl
      refine pure_ (i := 5) (N := some 17) (v := ?_) (a' := ?_) #[true, true, true, true, true, true, false, false, false, false, false, false, false, false, false, false, false, false, false, false] rfl rfl (by kernel_rfl) (fun _ _ _ h => h) (Or.inl ⟨by rfl, ?_⟩) ?_ ?_
      rotate_left
      · intro w'
        go_simp
        with_reducible rfl
      rotate_left
      · simp only [Act.put, List.setIfInBounds_toArray, List.set_cons_zero, List.set_cons_succ, i64_w, i32_w]
        rfl
      refine pure_ (i := 6) (N := some 18) (v := ?_) (a' := ?_) #[true, true, true, true, true, true, true, false, false, false, false, false, false, false, false, false, false, false, false, false] rfl rfl (by kernel_rfl) (fun _ _ _ h => h) (Or.inl ⟨by rfl, ?_⟩) ?_ ?_
      rotate_left
      · intro w'
        go_simp
        with_reducible rfl
      rotate_left
      · simp only [Act.put, List.setIfInBounds_toArray, List.set_cons_zero, List.set_cons_succ, i64_w, i32_w]
        rfl
      refine pure_ (i := 8) (N := some 20) (v := ?_) (a' := ?_) #[true, true, true, true, true, true, true, false, true, false, false, false, false, false, false, false, false, false, false, false] rfl rfl (by kernel_rfl) (fun _ _ _ h => h) (Or.inl ⟨by rfl, ?_⟩) ?_ ?_
      rotate_left
      · intro w'
        go_simp
        with_reducible rfl
      rotate_left
      · simp only [Act.put, List.setIfInBounds_toArray, List.set_cons_zero, List.set_cons_succ, i64_w, i32_w]
        rfl
      refine pure_ (i := 9) (N := some 21) (v := ?_) (a' := ?_) #[true, true, true, true, true, true, true, false, true, true, false, false, false, false, false, false, false, false, false, false] rfl rfl (by kernel_rfl) (fun _ _ _ h => h) (Or.inl ⟨by rfl, ?_⟩) ?_ ?_
      rotate_left
      · intro w'
        go_simp
        with_reducible rfl
      rotate_left
      · simp only [Act.put, List.setIfInBounds_toArray, List.set_cons_zero, List.set_cons_succ, i64_w, i32_w]
        rfl
      refine pure_ (i := 12) (N := some 24) (v := ?_) (a' := ?_) #[true, true, true, true, true, true, true, false, true, true, false, false, true, false, false, false, false, false, false, false] rfl rfl (by kernel_rfl) (fun _ _ _ h => h) (Or.inl ⟨by rfl, ?_⟩) ?_ ?_
      rotate_left
      · intro w'
        go_simp
        with_reducible rfl
      rotate_left
      · simp only [Act.put, List.setIfInBounds_toArray, List.set_cons_zero, List.set_cons_succ, i64_w, i32_w]
        rfl
      refine pure_ (i := 13) (N := some 25) (v := ?_) (a' := ?_) #[true, true, true, true, true, true, true, false, true, true, false, false, true, true, false, false, false, false, false, false] rfl rfl (by kernel_rfl) (fun _ _ _ h => h) (Or.inl ⟨by rfl, ?_⟩) ?_ ?_
      rotate_left
      · intro w'
        go_simp
        with_reducible rfl
      rotate_left
      · simp only [Act.put, List.setIfInBounds_toArray, List.set_cons_zero, List.set_cons_succ, i64_w, i32_w]
        rfl
      refine pure_ (i := 14) (N := some 26) (v := ?_) (a' := ?_) #[true, true, true, true, true, true, true, false, true, true, false, false, true, true, true, false, false, false, false, false] rfl rfl (by kernel_rfl) (fun _ _ _ h => h) (Or.inl ⟨by rfl, ?_⟩) ?_ ?_
      rotate_left
      · intro w'
        go_simp
        with_reducible rfl
      rotate_left
      · simp only [Act.put, List.setIfInBounds_toArray, List.set_cons_zero, List.set_cons_succ, i64_w, i32_w]
        rfl
      refine pure_ (i := 17) (N := some 29) (v := ?_) (a' := ?_) #[true, true, true, true, true, true, true, false, true, true, false, false, true, true, true, false, false, true, false, false] rfl rfl (by kernel_rfl) (fun _ _ _ h => h) (Or.inl ⟨by rfl, ?_⟩) ?_ ?_
      rotate_left
      · intro w'
        go_simp
        with_reducible rfl
      rotate_left
      · simp only [Act.put, List.setIfInBounds_toArray, List.set_cons_zero, List.set_cons_succ, i64_w, i32_w]
        rfl
      refine take_ (i := 7) (N := some 19) (v := ?_) (a' := ?_) #[true, true, true, true, true, true, true, true, true, true, false, false, true, true, true, false, false, true, false, false] rfl rfl (by kernel_rfl) (fun _ _ _ h => h) (Or.inl ⟨by rfl, ?_⟩) hHeld ?_ ?_
      rotate_left
      · intro w' s0
        go_simp
        with_reducible rfl
      rotate_left
      · simp only [Act.put, List.setIfInBounds_toArray, List.set_cons_zero, List.set_cons_succ, i64_w, i32_w]
        rfl
      refine take_ (i := 10) (N := some 22) (v := ?_) (a' := ?_) #[true, true, true, true, true, true, true, true, true, true, true, false, true, true, true, false, false, true, false, false] rfl rfl (by kernel_rfl) (fun _ _ _ h => h) (Or.inl ⟨by rfl, ?_⟩) hHeld ?_ ?_
      rotate_left
      · intro w' s0
        go_simp
        with_reducible rfl
      rotate_left
      · simp only [Act.put, List.setIfInBounds_toArray, List.set_cons_zero, List.set_cons_succ, i64_w, i32_w]
        rfl
      refine pure_ (i := 11) (N := some 23) (v := ?_) (a' := ?_) #[true, true, true, true, true, true, true, true, true, true, true, true, true, true, true, false, false, true, false, false] rfl rfl (by kernel_rfl) (fun _ _ _ h => h) (Or.inl ⟨by rfl, ?_⟩) ?_ ?_
      rotate_left
      · intro w'
        go_simp
        with_reducible rfl
      rotate_left
      · simp only [Act.put, List.setIfInBounds_toArray, List.set_cons_zero, List.set_cons_succ, i64_w, i32_w]
        rfl
      refine pure_ (i := 15) (N := some 27) (v := ?_) (a' := ?_) #[true, true, true, true, true, true, true, true, true, true, true, true, true, true, true, true, false, true, false, false] rfl rfl (by kernel_rfl) (fun _ _ _ h => h) (Or.inl ⟨by rfl, ?_⟩) ?_ ?_
      rotate_left
      · intro w'
        go_simp
        with_reducible rfl
      rotate_left
      · simp only [Act.put, List.setIfInBounds_toArray, List.set_cons_zero, List.set_cons_succ, i64_w, i32_w]
        rfl
      refine pure_ (i := 16) (N := some 28) (v := ?_) (a' := ?_) #[true, true, true, true, true, true, true, true, true, true, true, true, true, true, true, true, true, true, false, false] rfl rfl (by kernel_rfl) (fun _ _ _ h => h) (Or.inl ⟨by rfl, ?_⟩) ?_ ?_
      rotate_left
      · intro w'
        go_simp
        with_reducible rfl
      rotate_left
      · simp only [Act.put, List.setIfInBounds_toArray, List.set_cons_zero, List.set_cons_succ, i64_w, i32_w]
        rfl
      refine pure_ (i := 18) (N := some 30) (v := ?_) (a' := ?_) #[true, true, true, true, true, true, true, true, true, true, true, true, true, true, true, true, true, true, true, false] rfl rfl (by kernel_rfl) (fun _ _ _ h => h) (Or.inl ⟨by rfl, ?_⟩) ?_ ?_
      rotate_left
      · intro w'
        go_simp
        with_reducible rfl
      rotate_left
      · simp only [Act.put, List.setIfInBounds_toArray, List.set_cons_zero, List.set_cons_succ, i64_w, i32_w]
        rfl
      refine last_ (i := 19) (N := none) #[true, true, true, true, true, true, true, true, true, true, true, true, true, true, true, true, true, true, true, true] rfl rfl (by kernel_rfl) (by decide) (fun K hK => ?_)
      have q_ := hA.drew.cell a ha0 ha1
      have f_ := hA.drew.free a.toNat
      refine skip_ (w1 := wr.drew.setCell ⟨g, a.toNat, none⟩ (.int .u32 (bits .or .u32 (rd ys a) (IntKind.u32.wrap (IntKind.u32.wrap (bt s i) * 2 ^ m.toNat))))) (by rfl) rfl ?_ ?_
      · go_simp
      have hA4 := hA.drew.set_ a.toNat ((bits .or .u32 (rd ys a) (IntKind.u32.wrap (IntKind.u32.wrap (bt s i) * 2 ^ m.toNat))))
      have gA4 := grown_set wr.drew g a.toNat (.int .u32 (bits .or .u32 (rd ys a) (IntKind.u32.wrap (IntKind.u32.wrap (bt s i) * 2 ^ m.toNat))))
      clear q_ f_
      generalize wr.drew.setCell ⟨g, a.toNat, none⟩ (.int .u32 (bits .or .u32 (rd ys a) (IntKind.u32.wrap (IntKind.u32.wrap (bt s i) * 2 ^ m.toNat)))) = w4 at hA4 gA4 ⊢
      refine hK.out _ _ ?_
      clear hK K
      refine done_ (by kernel_rfl) ?_
      rw [← HS.out] at hA4
      clear HS hq ha hm hbt hA hHeld
      have gA5 := grown_trans hG (grown_trans (grown_below (pw_below_drewN (Below.refl _ _) 1) _) gA4)
      clear gA4 hG
      go_wp2
      go_roundw
      case rel => exact ⟨i + 1, by omega, by omega, by go_num, hA4, gA5⟩
      case measure => simp [intOf]; omega
    · go_wp2
      go_end0
      have : i = s.size := by omega
      subst this
      exact ⟨rfl, by simpa using hA, hG⟩
end Go.Proofs.Ytioafoilinhmjaa.Q
