/- slices.Clone and prekeys.replaced at shelves: a row of its own, of which one may be another one.
   Conditions: the list is read as shelves. -/
import Derived.Test.YtkomcddnfjbifaaHLeft
import Derived.WalkSpells
namespace Go.Proofs.Ytkomcddnfjbifaa.Q
open Go.RowKit Go.Proofs.YtkomcddnfjbifaaW.PrintWords Go.Proofs.YtkomcddnfjbifaaW.PrintLast Go.Proofs.YtkomcddnfjbifaaW.PrintMore
set_option linter.unusedVariables false
set_option linter.unusedSimpArgs false

/-- Elements as they are read in a given world: a row of one's own may have elements whose rows are older. -/
def kdAt {α : Type} (d : Kd α) (w0 : World) : Kd α where
  sz := d.sz
  E := []
  K := fun _ => d.K w0
  M := fun _ _ _ => d.K w0
  K_len := fun h => d.K_len h
  K_one := fun h => d.K_one h
  K_below := fun _ h => h
  K_of_M := fun h => h
  M_mono := fun _ h => h
  M_bound := fun h => h
  M_move := fun _ h => h
  M_lower := fun _ h => h
theorem kdAt_C {α : Type} {d : Kd α} {w0 w : World} {A : Option Addr} {n : Nat} {xs : List α} (h : (kdAt d w0).C w A n xs) (hb : Below w0.heap.size w0 w) : d.C w A n xs :=
  ReadsRow.imp_ h (Below.refl _ _) (fun _ _ hp => d.K_below hb hp)
theorem C_kdAt {α : Type} {d : Kd α} {w0 w : World} {A : Option Addr} {n : Nat} {xs : List α} (h : d.C w0 A n xs) (hb : Below w0.heap.size w0 w) : (kdAt d w0).C w A n xs :=
  ReadsRow.imp_ h hb (fun _ _ hp => hp)
abbrev kr (w0 : World) : Kd S29 := kdAt k29 w0
theorem clone_nil (c0 : Nat) (w : World) : Calls Try.prog 36 #[.slice none 0 c0] w fun e w' => e = .returned (.slice none 0 0) ∧ w = w' := by
  have hnil := fun W => Lib.run_eql_slice_nil (P := Try.prog) W 22 29 none 0 c0 0 0 Try.underlying22
  go_enter Try.func36, Try.ntmps36
  go_wp2
  go_ret
  exact ⟨rfl, rfl⟩
set_option maxHeartbeats 1000000 in
set_option maxRecDepth 100000 in
theorem clone_calls (A0 : Option Addr) (c0 : Nat) (l0 : List S29) (w0 w : World) (hw : Below w0.heap.size w0 w) (hr0 : Kd.C (kr w0) w A0 l0.length l0) (hc0 : l0.length ≤ c0) (hlim : l0.length ≤ 1000000) :
    Calls Try.prog 36 #[.slice A0 l0.length c0] w fun e w' => ∃ v, e = .returned v ∧ Kd.R (kr w0) 29 w' w.heap.size (fun _ => True) v l0 ∧ Below w.heap.size w w' := by
  rcases A0 with _ | ad
  · have h0 : l0 = [] := by
      rcases Nat.eq_zero_or_pos l0.length with h | h
      · exact List.eq_nil_of_length_eq_zero h
      · obtain ⟨ad, h', _⟩ := hr0.2.2 h
        cases h'
    subst h0
    refine (clone_nil c0 w).mono ?_
    rintro e w' ⟨rfl, rfl⟩
    exact ⟨_, rfl, Kd.R_nil _ _ _ _ _, Below.refl _ _⟩
  · have hnil := fun W => Lib.run_eql_slice_nil (P := Try.prog) W 22 29 (some ad) l0.length c0 0 0 Try.underlying22
    have HB := Aside0.mk (Below.refl w.heap.size w)
    go_enter Try.func36, Try.ntmps36
    go_wp2_with (first | ((with_reducible refine gate_dst (N := 5) rfl ?_); refine Kd.R_lit (kr w0) _ 29 ?hg (N := 5) ?hd (xs := ([] : List S29)) (inner := []) (ok := fun _ => True) (okp := fun _ => True) ?hr ?hp (fun _ hk => hk) trivial (Below.refl _ _) (Nat.le_refl _) (by simp) ?_; (case hd => rfl); (case hg => rfl); (case hr => first | (go_simp; done) | (go_simp; rfl)); (case hp => exact (Reps.none _ _)); intro v1 w1 ho1 hb1 hg1 hnew1; clear hg1 hnew1; replace HB := Aside0.mk hb1; replace ho1 := Aside0.mk ho1; clear hb1) | ((with_reducible refine gate_builtin (b := .append) (xs := #[.tmp 5, .tmp 6]) rfl ?_); at_builtin; refine Kd.R_append_rows (kr w0) (w0 := w) w.heap.size rfl (.tmp 5) (.tmp 6) 22 29 (.agg #[(.int .u64 0), (.string ⟨#[]⟩), (.int .u64 0), (.string ⟨#[]⟩), (.slice none 0 0)]) 72 rfl Try.underlying22 info29 rfl (by show 0 < 5; omega) (by omega) _ [] l0 _ _ _ (fun _ => True) (fun _ => False) rfl rfl ho1.out (Kd.C_below hr0 HB.out) (fun _ _ h => h) (fun _ h => h.elim) (fun _ _ => trivial) HB.out HB.out.size (by simp only [List.length_nil]; omega) ?_; intro v2 w2 ho hb hg hat; clear hg hat; replace ho := Aside0.mk ho; replace HB := Aside0.mk hb; clear hb))
    trace_state
    go_ret
    exact ⟨_, rfl, ho.out, HB.out⟩
/-- The cells of an element of a row of one's own, whose elements are read in an older world. -/
theorem kr_at {w0 W : World} {g base n cap : Nat} {ok : Nat → Prop} {xs : List S29} (h : Kd.R (kr w0) 29 W base ok (.slice (some ⟨g, 0, none⟩) n cap) xs) (i : Nat) (h1 : i < n) :
    ∃ A4 c4, (rd_T29 xs (i : Int)).f3.length ≤ c4 ∧ k26.C w0 A4 (rd_T29 xs (i : Int)).f3.length (rd_T29 xs (i : Int)).f3 ∧ (∀ j u, [Value.int .u64 (rd_T29 xs (i : Int)).f0, .string (rd_T29 xs (i : Int)).f1, .int .u64 (rd_T29 xs (i : Int)).f2.f0, .string (rd_T29 xs (i : Int)).f2.f1, .slice A4 (rd_T29 xs (i : Int)).f3.length c4][j]? = some u → W.cell? ⟨g, i * 5 + j, none⟩ = some u) := by
  obtain ⟨c, hl, hM, hcc, _⟩ := Kd.R_elem h z29 (i : Int) (by omega) (by omega)
  obtain ⟨A4, c4, rfl, h2, h3⟩ := k29_open (w := w0) hM
  exact ⟨A4, c4, h2, h3, fun j u hu => by have := hcc j u hu; rwa [Int.toNat_natCast] at this⟩
theorem enter31 (args : Array Value) (W : World) : (callFunc 31 args).run Try.prog W = .ok (.enter 31 args) W := by
  have h := Try.func31
  simp [callFunc, h, Try.f31, Sem.run_bind]
/-- The cells of an element that is read in an older world. -/
theorem kr_atC {w0 W : World} {A : Option Addr} {n : Nat} {xs : List S29} (h : (kr w0).C W A n xs) (i : Nat) (h1 : i < n) :
    ∃ ad A4 c4, A = some ad ∧ W.cell? (ad.add (i * 5)) = some (.int .u64 (rd_T29 xs (i : Int)).f0) ∧ W.cell? ⟨(ad.add (i * 5)).block, (ad.add (i * 5)).off + 1, none⟩ = some (.string (rd_T29 xs (i : Int)).f1) ∧ W.cell? ⟨(ad.add (i * 5)).block, (ad.add (i * 5)).off + 2, none⟩ = some (.int .u64 (rd_T29 xs (i : Int)).f2.f0) ∧
      W.cell? ⟨(ad.add (i * 5)).block, (ad.add (i * 5)).off + 3, none⟩ = some (.string (rd_T29 xs (i : Int)).f2.f1) ∧ W.cell? ⟨(ad.add (i * 5)).block, (ad.add (i * 5)).off + 4, none⟩ = some (.slice A4 (rd_T29 xs (i : Int)).f3.length c4) ∧ (rd_T29 xs (i : Int)).f3.length ≤ c4 ∧ k26.C w0 A4 (rd_T29 xs (i : Int)).f3.length (rd_T29 xs (i : Int)).f3 := by
  obtain ⟨ad, c, e, _, hK, hc0⟩ := Kd.C_get h z29 (i : Int) (by omega) (by omega)
  have hc : ∀ j u, c[j]? = some u → W.cell? (ad.add (i * 5 + j)) = some u := fun j u hu => by have := hc0 j u hu; rwa [Int.toNat_natCast] at this
  obtain ⟨A4, c4, rfl, l4, g4⟩ := k29_open (w := w0) hK
  exact ⟨ad, A4, c4, e, hc 0 _ rfl, by rw [← add_field _ _ 1 (by omega)]; exact hc 1 _ rfl, by rw [← add_field _ _ 2 (by omega)]; exact hc 2 _ rfl, by rw [← add_field _ _ 3 (by omega)]; exact hc 3 _ rfl, by rw [← add_field _ _ 4 (by omega)]; exact hc 4 _ rfl, l4, g4⟩
set_option maxHeartbeats 2000000 in
set_option maxRecDepth 100000 in
theorem replaced_calls (F : Nat) (q : Addr) (A0 : Option Addr) (c0 : Nat) (l0 : List S29) (i : Nat) (x' : S29) (w0 w : World) (hw : Below w0.heap.size w0 w) (hF : ∀ args W, (callFunc F args).run Try.prog W = .ok (.enter F args) W) (hr0 : Kd.C k29 w0 A0 l0.length l0) (hc0 : l0.length ≤ c0) (hlim : l0.length ≤ 1000000) (hi : i < l0.length)
    (hcl : ∀ (w1 : World) (A4 : Option Addr) (c4 : Nat), Below w.heap.size w w1 → (rd_T29 l0 (i : Int)).f3.length ≤ c4 → k26.C w0 A4 (rd_T29 l0 (i : Int)).f3.length (rd_T29 l0 (i : Int)).f3 → Calls Try.prog F #[sv (rd_T29 l0 (i : Int)) A4 c4, .pointer (some q)] w1 fun e w' => ∃ B c', e = .returned (sv x' B c') ∧ x'.f3.length ≤ c' ∧ k26.C w0 B x'.f3.length x'.f3 ∧ Below w1.heap.size w1 w') :
    Calls Try.prog 30 #[.slice A0 l0.length c0, .int .i64 (i : Int), .func (.func F) #[] #[.pointer (some q)]] w fun e w' => ∃ v, e = .returned v ∧ Kd.R (kr w0) 29 w' w.heap.size (fun _ => True) v (l0.set i x') ∧ Below w.heap.size w w' := by
  have hcn := clone_calls A0 c0 l0 w0 w hw (C_kdAt hr0 hw) hc0 hlim
  go_enter Try.func30, Try.ntmps30
  go_wp2_with fail
  refine hcn.mono ?_; rintro e_ w1 ⟨v, rfl, hR, hb1⟩
  clear hcn
  obtain ⟨g, cap, rfl, hg0, hg1, _⟩ := Kd.R_form hR (by omega)
  obtain ⟨A4, c4, hc4, hC4, hcc⟩ := kr_at hR i hi
  replace hcl := Aside0.mk (hcl w1 A4 c4 hb1 hc4 hC4)
  replace hC4 := Aside0.mk hC4
  generalize hx : rd_T29 l0 (i : Int) = x at hcc hcl
  have z0 := hcc 0 _ rfl
  rw [Nat.add_zero] at z0
  have z1 := hcc 1 _ rfl
  have z2 := hcc 2 _ rfl
  have z3 := hcc 3 _ rfl
  have z4 := hcc 4 _ rfl
  clear hx
  replace hcc := Aside0.mk hcc
  have hin : (i : Int) < l0.length := by omega
  go_wp2_with fail
  refine hcl.out.mono ?_; rintro e_ w2 ⟨B, c', rfl, hc', hC', hb2⟩
  have hR2 := Kd.R_below hR hb2
  have hB2 := below_step hb1 hb2
  have hK' : k29.K w0 x' [.int .u64 x'.f0, .string x'.f1, .int .u64 x'.f2.f0, .string x'.f2.f1, .slice B x'.f3.length c'] := k29_mk w0 x' hc' hC'
  have y : ∀ j u, [Value.int .u64 x.f0, .string x.f1, .int .u64 x.f2.f0, .string x.f2.f1, .slice A4 x.f3.length c4][j]? = some u → w2.cell? ⟨g, (i : Int).toNat * 5 + j, none⟩ = some u := fun j u hu => by
    rw [Int.toNat_natCast]
    exact (Below.cell (p := ⟨g, i * 5 + j, none⟩) hb2 hg1).trans (hcc.out j u hu)
  clear hcl hR hb2 z0 z1 z2 z3 z4
  go_wp2_with ((with_reducible refine gate_store (t := 29) (p := 18) rfl ?_); go_loud (refine Kd.R_store (kr w0) (w0 := w) w.heap.size rfl rfl 29 (.tmp 18) (.tmp 17) rfl 29 (i : Int) 0 l0 x' (sv x' B c') [.int .u64 x'.f0, .string x'.f1, .int .u64 x'.f2.f0, .string x'.f2.f1, .slice B x'.f3.length c'] [.int .u64 x.f0, .string x.f1, .int .u64 x.f2.f0, .string x.f2.f1, .slice A4 x.f3.length c4] (fun _ => True) (fun k => k ≠ g) rfl (by rw [Int.toNat_natCast]; rfl) rfl rfl (by kernel_rfl) (by simp [Value.oneCell']) hR2 (by omega) (by omega) rfl y (by show 0 + 5 ≤ 5; omega) hK' (fun _ h => ⟨trivial, h⟩) hB2 ?_); intro w3 hR3 hB3 hg3)
  go_ret
  rw [Int.toNat_natCast] at hR3
  exact ⟨_, rfl, hR3, hB3⟩
end Go.Proofs.Ytkomcddnfjbifaa.Q
