/- What shelves are with a user's one published: they may be, and have all that were. -/
import Derived.Test.YtkomcddnfjbifaaHPure
import Derived.Test.YtkomcddnfjbifaaHPublish
namespace Go.Proofs.Ytkomcddnfjbifaa.Q
open Go.RowKit Go.Proofs.YtkomcddnfjbifaaW.PrintWords Go.Proofs.YtkomcddnfjbifaaW.PrintLast Go.Proofs.YtkomcddnfjbifaaW.PrintMore
set_option linter.unusedVariables false
set_option linter.unusedSimpArgs false

theorem put_len (l : List S29) (s : S29) (i : Nat) (hi : i ≤ l.length) : (l.take i ++ s :: l.drop i).length = l.length + 1 := by
  rw [List.length_append, List.length_take, List.length_cons, List.length_drop]
  omega
theorem rd_put (l : List S29) (s : S29) (i : Nat) (hi : i ≤ l.length) (j : Nat) (hj : j < l.length + 1) : rd_T29 (l.take i ++ s :: l.drop i) (j : Int) = if j < i then rd_T29 l (j : Int) else if j = i then s else rd_T29 l ((j - 1 : Nat) : Int) := by
  have hti : (l.take i).length = i := by rw [List.length_take]; omega
  rw [rd_nat _ j (by rw [put_len l s i hi]; exact hj)]
  split
  · rename_i h
    rw [List.getElem_append_left (by omega), List.getElem_take, rd_nat l j (by omega)]
  · rw [List.getElem_append_right (by omega)]
    split
    · rename_i h h2
      subst h2
      simp [hti]
    · rename_i h h2
      rw [List.getElem_cons]
      rw [dif_neg (by omega), List.getElem_drop, rd_nat l (j - 1) (by omega)]
      congr 1
      omega
/-- Shelves with one of a user's at a place, that have all that were. -/
def PubL (l lp : List S29) (s : S29) (i : Nat) : Prop :=
  lp.length ≤ 8 ∧ i < lp.length ∧ rd_T29 lp (i : Int) = s ∧ rightB lp = true ∧ (∀ x ∈ lp, x = s ∨ x ∈ l) ∧ ∀ j : Nat, j < l.length → ∃ j' : Nat, j' < lp.length ∧ (rd_T29 lp (j' : Int)).f0 = (rd_T29 l (j : Int)).f0 ∧ ((rd_T29 l (j : Int)).f0 ≠ s.f0 → rd_T29 lp (j' : Int) = rd_T29 l (j : Int) ∧ j' ≠ i)
theorem pub_set {l : List S29} {s : S29} {i : Nat} (h : rightB l = true) (hs : shelfB s = true) (hi : i < l.length) (hu : (rd_T29 l (i : Int)).f0 = s.f0) : PubL l (l.set i s) s i := by
  have hl : (l.set i s).length = l.length := List.length_set
  refine ⟨by rw [hl]; exact right_len h, by rw [hl]; exact hi, by rw [rd_set l i s i hi, if_pos rfl], right_set h i s hi hu.symm hs, fun x hx => ?_, fun j hj => ⟨j, by rw [hl]; exact hj, ?_, fun hne => ?_⟩⟩
  · rcases List.mem_or_eq_of_mem_set hx with h1 | h1
    · exact .inr h1
    · exact .inl h1
  · rw [rd_set l i s j hj]
    split
    · subst_vars; exact hu.symm
    · rfl
  · have hij : i ≠ j := fun e => hne (by subst e; exact hu)
    rw [rd_set l i s j hj, if_neg hij]
    exact ⟨rfl, fun e => hij e.symm⟩
theorem pub_put {l : List S29} {s : S29} {i : Nat} (h : rightB l = true) (hs : shelfB s = true) (hf : foundR l s.f0 i false) (h8 : l.length ≠ 8) : PubL l (l.take i ++ s :: l.drop i) s i := by
  have hi : i ≤ l.length := hf.1
  have hl := put_len l s i hi
  have hl8 := right_len h
  obtain ⟨a, b⟩ := found_lt h hf
  refine ⟨by rw [hl]; omega, by rw [hl]; omega, by rw [rd_put l s i hi i (by omega), if_neg (by omega), if_pos rfl], right_of (by rw [hl]; omega) (fun j hj => ?_) (fun j hj => ?_), fun x hx => ?_, fun j hj => ?_⟩
  · rw [hl] at hj
    rw [rd_put l s i hi j hj]
    split
    · exact right_shelf h j (by omega)
    · split
      · exact hs
      · exact right_shelf h (j - 1) (by omega)
  · rw [hl] at hj
    rw [rd_put l s i hi j (by omega), rd_put l s i hi (j + 1) hj]
    by_cases h1 : j + 1 < i
    · rw [if_pos (by omega), if_pos h1]
      exact right_rises h (j + 1) j (by omega) (by omega)
    · by_cases h2 : j + 1 = i
      · rw [if_pos (by omega), if_neg h1, if_pos h2]
        exact a j (by omega)
      · by_cases h3 : j = i
        · rw [if_neg (by omega), if_pos h3, if_neg h1, if_neg h2]
          exact b (j + 1 - 1) (by omega) (by omega)
        · rw [if_neg (by omega), if_neg h3, if_neg h1, if_neg h2]
          exact right_rises h (j + 1 - 1) (j - 1) (by omega) (by omega)
  · rcases List.mem_append.1 hx with h1 | h1
    · exact .inr (List.mem_of_mem_take h1)
    · rcases List.mem_cons.1 h1 with h2 | h2
      · exact .inl h2
      · exact .inr (List.mem_of_mem_drop h2)
  · by_cases hji : j < i
    · have e : rd_T29 (l.take i ++ s :: l.drop i) (j : Int) = rd_T29 l (j : Int) := by rw [rd_put l s i hi j (by omega), if_pos hji]
      exact ⟨j, by rw [hl]; omega, by rw [e], fun _ => ⟨e, by omega⟩⟩
    · have e : rd_T29 (l.take i ++ s :: l.drop i) ((j + 1 : Nat) : Int) = rd_T29 l (j : Int) := by rw [rd_put l s i hi (j + 1) (by omega), if_neg (by omega), if_neg (by omega), Nat.add_sub_cancel]
      exact ⟨j + 1, by rw [hl]; omega, by rw [e], fun _ => ⟨e, by omega⟩⟩
/-- What prekeys.Publish answers: a refusal, or shelves that have all that were. -/
theorem pub_cases {l : List S29} {s : S29} {e : Ending} {w' : World} (h : PubE l s e w') :
    (∃ q : Int, e = .returned (.tuple #[.slice none 0 0, .int .i64 q]) ∧ q ≠ 0) ∨
    (shelfB s = true ∧ ∃ (lp : List S29) (i : Nat) (A : Option Addr) (c : Nat), PubL l lp s i ∧ e = .returned (.tuple #[.slice A lp.length c, .int .i64 0]) ∧ lp.length ≤ c ∧ k29.C w' A lp.length lp) := by
  rcases h with ⟨_, rfl⟩ | ⟨hR, hS, i, ⟨_, _, _, rfl⟩ | ⟨hi, hu, _, A, c, rfl, hc, hC⟩ | ⟨_, _, rfl⟩ | ⟨hf, h8, A, c, rfl, hc, hC⟩⟩
  · exact .inl ⟨1, rfl, by decide⟩
  · exact .inl ⟨3, rfl, by decide⟩
  · have hl : (l.set i s).length = l.length := List.length_set
    refine .inr ⟨hS, l.set i s, i, A, c, pub_set hR hS hi hu, by rw [hl], by rw [hl]; exact hc, by rw [hl]; exact hC⟩
  · exact .inl ⟨6, rfl, by decide⟩
  · have hl := put_len l s i hf.1
    refine .inr ⟨hS, _, i, A, c, pub_put hR hS hf h8, by rw [hl], by rw [hl]; exact hc, by rw [hl]; exact hC⟩
end Go.Proofs.Ytkomcddnfjbifaa.Q
