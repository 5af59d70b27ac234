/- What layer 22 leans on: places in a list, rows that are read on, numbers that are the same.
   Conditions: none. -/
import Derived.Test.YtenmmeehgnkcpaaHAdd
import Derived.Test.YtenmmeehgnkcpaaQx121
import Derived.Test.YtenmmeehgnkcpaaHOpen
namespace Go.Proofs.Ytenmmeehgnkcpaa.Q
open Go.RowKit Go.Proofs.YtenmmeehgnkcpaaW.PrintWords Go.Proofs.YtenmmeehgnkcpaaW.PrintLast Go.Proofs.YtenmmeehgnkcpaaW.PrintMore
set_option linter.unusedVariables false
set_option linter.unusedSimpArgs false

theorem rdI_nat0 (ks : List Int) (i : Nat) (h : i < ks.length) : rd ks (i : Int) = ks[i] := by simp [rd, rdOf, h]
theorem two_new (W : World) (X Y : Obj) : ((W.alloc X).alloc Y).heap[W.heap.size]? = some X ∧ ((W.alloc X).alloc Y).heap[W.heap.size + 1]? = some Y := by
  have h := heap_alloc_new W X
  have hs : (W.alloc X).heap.size = W.heap.size + 1 := by simp
  refine ⟨((below_alloc (Below.refl (W.alloc X).heap.size (W.alloc X)) Y).block _ (by omega)).trans h, ?_⟩
  rw [← hs]
  exact heap_alloc_new _ _
def inL (n : Nat) (k : Int) : Bool := decide (0 ≤ k) && decide (k < n)
theorem made_lt {n : Int} {t : S28} (h : madeB n t = true) : (unaryB t.f0 = true → 0 ≤ t.f2 ∧ t.f2 < n) ∧ (binaryB t.f0 = true → (0 ≤ t.f2 ∧ t.f2 < n) ∧ 0 ≤ t.f3 ∧ t.f3 < n) ∧ (t.f0 = 0 ∨ unaryB t.f0 = true ∨ binaryB t.f0 = true) := by
  unfold madeB at h
  split at h
  · cases h
  · split at h
    · rename_i h0
      have h0 : t.f0 = 0 := beq_iff_eq.1 h0
      refine ⟨fun hu => ?_, fun hb => ?_, .inl h0⟩
      · rw [h0] at hu; exact absurd hu (by decide)
      · rw [h0] at hb; exact absurd hb (by decide)
    · split at h
      · rename_i hu
        rw [Bool.and_eq_true] at h
        unfold inB at h
        rw [Bool.and_eq_true] at h
        have h1 := of_decide_eq_true h.1.1
        have h2 := of_decide_eq_true h.1.2
        refine ⟨fun _ => ⟨h1, h2⟩, fun hb => ?_, .inr (.inl hu)⟩
        exfalso
        unfold unaryB at hu
        unfold binaryB at hb
        simp only [Bool.or_eq_true, Bool.and_eq_true, beq_iff_eq, decide_eq_true_eq] at hu hb
        omega
      · rename_i hu
        rw [Bool.and_eq_true, Bool.and_eq_true, Bool.and_eq_true] at h
        unfold inB at h
        rw [Bool.and_eq_true, Bool.and_eq_true] at h
        exact ⟨fun h' => absurd h' hu, fun _ => ⟨⟨of_decide_eq_true h.2.1.1, of_decide_eq_true h.2.1.2⟩, of_decide_eq_true h.2.2.1.1, of_decide_eq_true h.2.2.1.2⟩, .inr (.inr h.1)⟩
theorem numbers_l0 (a b : List Int) (hl : a.length ≤ 1000000) (hab : a.length = b.length) : ∀ (m k i : Nat), i + m = a.length → m < k →
    demurralref20_Numbers.l0 k a b (a.length : Int) (i : Int) = some (decide (a.drop i = b.drop i)) := by
  intro m
  induction m with
  | zero =>
    intro k i hi hk
    obtain ⟨k, rfl⟩ : ∃ k', k = k' + 1 := ⟨k - 1, by omega⟩
    rw [demurralref20_Numbers.l0, if_neg (by omega), List.drop_eq_nil_of_le (by omega), List.drop_eq_nil_of_le (by omega)]
    rfl
  | succ m ih =>
    intro k i hi hk
    obtain ⟨k, rfl⟩ : ∃ k', k = k' + 1 := ⟨k - 1, by omega⟩
    have hd : (a.drop i = b.drop i) ↔ (a[i] = b[i] ∧ a.drop (i + 1) = b.drop (i + 1)) := by
      have da : a.drop i = a[i] :: a.drop (i + 1) := List.drop_eq_getElem_cons (show i < a.length by omega)
      have db : b.drop i = b[i] :: b.drop (i + 1) := List.drop_eq_getElem_cons (show i < b.length by omega)
      rw [da, db, List.cons.injEq]
    rw [demurralref20_Numbers.l0, if_pos (by omega), if_pos (by omega), if_pos (by omega), if_pos (by omega), nx i (by omega), ih k (i + 1) (by omega) (by omega), rdI_nat0 a i (by omega), rdI_nat0 b i (by omega)]
    by_cases h : a[i] = b[i]
    · rw [if_pos h]
      simp only [hd, h, true_and]
    · rw [if_neg h]
      simp only [hd, h, false_and, decide_false]
theorem numbers_f (a b : List Int) (hl : a.length ≤ 1000000) (k : Nat) (hk : a.length < k) : demurralref20_Numbers.f k a b = some (decide (a = b)) := by
  unfold demurralref20_Numbers.f
  by_cases h : a.length = b.length
  · rw [if_pos (by omega), show (0 : Int) = ((0 : Nat) : Int) from rfl, numbers_l0 a b hl h a.length k 0 (by omega) hk]
    simp
  · rw [if_neg (by omega), decide_eq_false (fun e => h (by rw [e]))]


theorem right_at {l : List S28} (h : rightB l = true) (j : Nat) (hj : j < l.length) : madeB (j : Int) (rd_T28 l (j : Int)) = true ∧ hasT (l.take j) (rd_T28 l (j : Int)) = false := by
  unfold rightB rowT at h
  have h1 := List.all_eq_true.1 (Bool.and_eq_true_iff.1 h).1 j (List.mem_range.2 hj)
  unfold okT at h1
  obtain ⟨a, b⟩ := Bool.and_eq_true_iff.1 h1
  exact ⟨a, by simpa using b⟩
theorem right_inj {l : List S28} (h : rightB l = true) (i j : Nat) (hi : i < l.length) (hj : j < l.length) (he : rd_T28 l (i : Int) = rd_T28 l (j : Int)) : i = j := by
  have key : ∀ i j : Nat, i < j → j < l.length → rd_T28 l (i : Int) ≠ rd_T28 l (j : Int) := fun i j hij hj he => by
    have h2 := (right_at h j hj).2
    rw [Bool.eq_false_iff] at h2
    apply h2
    rw [hasT_iff, ← he, rd28_nat l i (by omega)]
    exact List.mem_take_iff_getElem.2 ⟨i, by omega, rfl⟩
  rcases Nat.lt_trichotomy i j with hlt | heq | hgt
  · exact absurd he (key i j hlt hj)
  · exact heq
  · exact absurd he.symm (key j i hgt hi)
theorem wf_of_good {l : List S28} (h : good23 l) : ∀ t ∈ l, wfT t := fun t ht => h.2 t ht
def Sees (w w' : World) : Prop := ∀ p v, w.cell? p = some v → w'.cell? p = some v
theorem sees_C28 {w0 w : World} {A : Option Addr} {n : Nat} {xs : List S28} (h : Sees w0 w) (hC : k28.C w0 A n xs) : k28.C w A n xs :=
  ⟨hC.1, hC.2.1, fun hn => by
    obtain ⟨ad, e, hc⟩ := hC.2.2 hn
    refine ⟨ad, e, fun j p hj => ?_⟩
    obtain ⟨c, hs, hr, hcell⟩ := hc j p hj
    exact ⟨c, hs, by obtain rfl := k28_open hr; exact k28_mk _ _, fun i u hu => h _ _ (hcell i u hu)⟩⟩
theorem sees_CI {w0 w : World} {A : Option Addr} {n : Nat} {xs : List Int} (h : Sees w0 w) (hC : (Kd.int .i64).C w0 A n xs) : (Kd.int .i64).C w A n xs :=
  ⟨hC.1, hC.2.1, fun hn => by
    obtain ⟨ad, e, hc⟩ := hC.2.2 hn
    refine ⟨ad, e, fun j p hj => ?_⟩
    obtain ⟨c, hs, hr, hcell⟩ := hc j p hj
    exact ⟨c, hs, hr, fun i u hu => h _ _ (hcell i u hu)⟩⟩
theorem sees_old {w w' : World} (h : ∀ k, k < w.heap.size → w'.heap[k]? = w.heap[k]?) : Sees w w' := fun p v hp => by
  have hlt : p.block < w.heap.size := by
    rcases Nat.lt_or_ge p.block w.heap.size with hl | hl
    · exact hl
    · unfold World.cell? at hp
      rw [Array.getElem?_eq_none (by omega)] at hp
      cases hp
  unfold World.cell? at hp ⊢
  rwa [h _ hlt]
theorem V_of28 {w : World} {A : Option Addr} {c : Nat} {l : List S28} (hC : k28.C w A l.length l) (hc : l.length ≤ c) : Kd.V k28 28 w w.heap.size (fun k => k < w.heap.size) (.slice A l.length c) l :=
  ⟨A, c, rfl, hc, fun w' hw => sees_C28 (sees_old fun k hk => hw k hk hk) hC⟩
theorem V_ofI {w : World} {A : Option Addr} {c : Nat} {l : List Int} (hC : (Kd.int .i64).C w A l.length l) (hc : l.length ≤ c) : Kd.V (Kd.int .i64) 3 w w.heap.size (fun k => k < w.heap.size) (.slice A l.length c) l :=
  ⟨A, c, rfl, hc, fun w' hw => sees_CI (sees_old fun k hk => hw k hk hk) hC⟩
end Go.Proofs.Ytenmmeehgnkcpaa.Q
