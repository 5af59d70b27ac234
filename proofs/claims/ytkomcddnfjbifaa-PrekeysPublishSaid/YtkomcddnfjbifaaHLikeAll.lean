/- slices.EqualFunc at shelves, prekeys.Like: whether two lists of shelves are the same.
   Conditions: the lists are read as shelves. -/
import Derived.Test.YtkomcddnfjbifaaHLike
namespace Go.Proofs.Ytkomcddnfjbifaa.Q
open Go.RowKit Go.Proofs.YtkomcddnfjbifaaW.PrintWords Go.Proofs.YtkomcddnfjbifaaW.PrintLast Go.Proofs.YtkomcddnfjbifaaW.PrintMore
set_option linter.unusedVariables false
set_option linter.unusedSimpArgs false

set_option maxHeartbeats 4000000 in
set_option maxRecDepth 100000 in
theorem eqfunc_calls (A0 : Option Addr) (c0 : Nat) (a : List S29) (A1 : Option Addr) (c1 : Nat) (b : List S29) (w : World) (hr0 : Kd.C k29 w A0 a.length a) (hc0 : a.length ≤ c0) (hr1 : Kd.C k29 w A1 b.length b) (hc1 : b.length ≤ c1) (hlim : a.length ≤ 1000000) (h3 : ∀ x ∈ a, x.f3.length ≤ 1000000) :
    Calls Try.prog 37 #[.slice A0 a.length c0, .slice A1 b.length c1, .func (.func 38) #[] #[]] w fun e w' => e = .returned (.bool (sameB a b)) ∧ Below w.heap.size w w' := by
  by_cases hl : a.length = b.length
  · obtain ⟨n, hn⟩ : ∃ n, a.length = n := ⟨_, rfl⟩
    have hnb : b.length = n := by omega
    rw [hn] at hr0 hc0 hlim ⊢
    rw [hnb] at hr1 hc1 ⊢
    have hsy := fun h => sameB_yes (a := a) (b := b) hl h
    replace hsy := Aside0.mk hsy
    replace hl := Lib.hid hl
    replace hn := Lib.hid hn
    replace hnb := Lib.hid hnb
    go_enter Try.func37, Try.ntmps37
    go_wp2
    go_loopw [17] (fun vi wr => ∃ i : Nat, i ≤ n ∧ vi = .int .i64 (i : Int) ∧ (∀ j : Nat, j < i → oneB (rd_T29 a (j : Int)) (rd_T29 b (j : Int)) = true) ∧ Below w.heap.size w wr) (fun vi _ => n - (intOf vi).toNat)
    case atStart => exact ⟨0, by omega, rfl, fun j h => absurd h (Nat.not_lt_zero j), Below.refl _ _⟩
    case round =>
      obtain ⟨i, hi, rfl, hok, hB⟩ := hrel
      by_cases hlt : (i : Int) < n
      · obtain ⟨ad, A4, c4, eA, q0, q1, q2, q3, q4, hc4, hC4⟩ := at_T29 (Kd.C_below hr0 hB) (i : Int) (by omega) hlt
        obtain ⟨bd, B4, d4, eB, p0, p1, p2, p3, p4, hd4, hD4⟩ := at_T29 (Kd.C_below hr1 hB) (i : Int) (by omega) hlt
        subst eA eB
        rw [Int.toNat_natCast] at q0 q1 q2 q3 q4 p0 p1 p2 p3 p4
        have hno := sameB_no (a := a) (b := b) i (by have := hn.out; omega)
        have hyes : oneB (rd_T29 a (i : Int)) (rd_T29 b (i : Int)) = true → ∀ j : Nat, j < i + 1 → oneB (rd_T29 a (j : Int)) (rd_T29 b (j : Int)) = true := fun h j hj => by
          by_cases e : j = i
          · subst e; exact h
          · exact hok j (by omega)
        have hx3 := h3 _ (rd29_mem a i (by have := hn.out; omega))
        replace hok := Aside0.mk hok
        generalize rd_T29 a (i : Int) = x at q0 q1 q2 q3 q4 hno hyes hC4 hc4 hx3
        generalize rd_T29 b (i : Int) = y at p0 p1 p2 p3 p4 hno hyes hD4 hd4
        replace hno := Aside0.mk hno
        replace hyes := Aside0.mk hyes
        have hadb : (bd.add (i * 5)).block < wr.heap.size := block_lt_of_cell p0
        obtain ⟨w1, hw1⟩ : ∃ w1, wr.alloc (.cells #[.int .u64 0, .string ⟨#[]⟩, .int .u64 0, .string ⟨#[]⟩, .slice none 0 0] 29 (0, 0)) = w1 := ⟨_, rfl⟩
        have hb1 : Below wr.heap.size wr w1 := by rw [← hw1]; exact below_alloc (Below.refl _ _) _
        have hK1 : w1.heap[wr.heap.size]? = some (.cells #[.int .u64 0, .string ⟨#[]⟩, .int .u64 0, .string ⟨#[]⟩, .slice none 0 0] 29 (0, 0)) := by rw [← hw1]; exact heap_alloc_new _ _
        go_wp2_with (first | ((with_reducible refine gate_store (t := 29) (p := 8) rfl ?_); go_loud (refine wpList_storeBox rfl rfl 29 (.tmp 8) (.tmp 21) rfl (sv x A4 c4) [.int .u64 x.f0, .string x.f1, .int .u64 x.f2.f0, .string x.f2.f1, .slice A4 x.f3.length c4] rfl rfl rfl (by kernel_rfl) (by simp [Value.oneCell']) hK1 rfl ?_); intro w2 hK2 hg2 hs2; clear hs2; have hb2 := Aside0.mk (pw_below_grown hb1 _ hb1.size hg2 (fun k hk => by cases hk; exact Nat.le_refl _)); clear hw1 hb1 hK1 hg2 q0 q1 q2 q3 q4; replace p0 := (Below.cell (p := (bd.add (i * 5))) hb2.out hadb).trans p0; replace p1 := (Below.cell (p := ⟨(bd.add (i * 5)).block, (bd.add (i * 5)).off + 1, none⟩) hb2.out hadb).trans p1; replace p2 := (Below.cell (p := ⟨(bd.add (i * 5)).block, (bd.add (i * 5)).off + 2, none⟩) hb2.out hadb).trans p2; replace p3 := (Below.cell (p := ⟨(bd.add (i * 5)).block, (bd.add (i * 5)).off + 3, none⟩) hb2.out hadb).trans p3; replace p4 := (Below.cell (p := ⟨(bd.add (i * 5)).block, (bd.add (i * 5)).off + 4, none⟩) hb2.out hadb).trans p4; obtain ⟨w3, hw3⟩ : ∃ w3, w2.alloc (.cells #[.int .u64 0, .string ⟨#[]⟩, .int .u64 0, .string ⟨#[]⟩, .slice none 0 0] 29 (0, 0)) = w3 := ⟨_, rfl⟩; have hb3 : Below w2.heap.size w2 w3 := (by rw [← hw3]; exact below_alloc (Below.refl _ _) _); have hK3 : w3.heap[w2.heap.size]? = some (.cells #[.int .u64 0, .string ⟨#[]⟩, .int .u64 0, .string ⟨#[]⟩, .slice none 0 0] 29 (0, 0)) := (by rw [← hw3]; exact heap_alloc_new _ _)) | ((with_reducible refine gate_store (t := 29) (p := 9) rfl ?_); go_loud (refine wpList_storeBox rfl rfl 29 (.tmp 9) (.tmp 25) rfl (sv y B4 d4) [.int .u64 y.f0, .string y.f1, .int .u64 y.f2.f0, .string y.f2.f1, .slice B4 y.f3.length d4] rfl rfl rfl (by kernel_rfl) (by simp [Value.oneCell']) hK3 rfl ?_); intro w4 hK4 hg4 hs4; clear hs4; have hb4 := Aside0.mk (pw_below_grown hb3 _ hb3.size hg4 (fun k hk => by cases hk; exact Nat.le_refl _)); clear hw3 hb3 hK3 hg4 p0 p1 p2 p3 p4; obtain ⟨y0, y1, y2, y3, y4⟩ := box5 ((hb4.out.block _ (blk_lt hK2)).trans hK2); obtain ⟨z0, z1, z2, z3, z4⟩ := box5 hK4))
        have hB4 := Aside0.mk (below_step hb2.out hb4.out)
        have hlk := Aside0.mk (like1_calls x A4 c4 y B4 d4 w4 (Kd.C_below hC4 hB4.out) hc4 (Kd.C_below hD4 hB4.out) hd4 hx3)
        clear y0 y1 y2 y3 y4 z0 z1 z2 z3 z4 hK2 hK4
        refine hlk.out.mono ?_; rintro e_ w5 ⟨rfl, hb5⟩
        have hB5 := Aside0.mk (below_step hB (below_step hB4.out hb5))
        clear hlk hb5 hB hB4 hb2 hb4
        cases ho : oneB x y with
        | false =>
          have hf := Lib.hid (hno.out ho)
          go_wp2
          go_ret
          exact ⟨by rw [hf.out]; rfl, hB5.out⟩
        | true =>
          have ht := Aside0.mk (hyes.out ho)
          go_wp2
          go_roundw
          case rel => exact ⟨i + 1, by omega, by go_num, ht.out, hB5.out⟩
          case measure => simp [intOf]; omega
      · obtain rfl : i = n := by omega
        have hf := Lib.hid (hsy.out (fun j hj => hok j (by have := hn.out; omega)))
        go_wp2
        go_ret
        exact ⟨by rw [hf.out]; rfl, hB⟩
  · have hf : sameB a b = false := by unfold sameB; rw [decide_eq_false hl]; rfl
    have hl' : ¬ ((a.length : Int) = (b.length : Int)) := by omega
    have hl2 : ((a.length : Int) == (b.length : Int)) = false := beq_eq_false_iff_ne.2 hl'
    replace hf := Lib.hid hf
    go_enter Try.func37, Try.ntmps37
    go_wp2
    go_ret
    exact ⟨by rw [hf.out]; rfl, Below.refl _ _⟩
theorem like_calls (A0 : Option Addr) (c0 : Nat) (a : List S29) (A1 : Option Addr) (c1 : Nat) (b : List S29) (w : World) (hr0 : Kd.C k29 w A0 a.length a) (hc0 : a.length ≤ c0) (hr1 : Kd.C k29 w A1 b.length b) (hc1 : b.length ≤ c1) (hlim : a.length ≤ 1000000) (h3 : ∀ x ∈ a, x.f3.length ≤ 1000000) :
    Calls Try.prog 23 #[.slice A0 a.length c0, .slice A1 b.length c1] w fun e w' => e = .returned (.bool (sameB a b)) ∧ Below w.heap.size w w' := by
  have he := Aside0.mk (eqfunc_calls A0 c0 a A1 c1 b w hr0 hc0 hr1 hc1 hlim h3)
  go_enter Try.func23, Try.ntmps23
  go_wp2_with fail
  refine he.out.mono ?_; rintro e_ w5 ⟨rfl, hb5⟩
  go_wp2
  go_ret
  exact ⟨rfl, hb5⟩
end Go.Proofs.Ytkomcddnfjbifaa.Q
