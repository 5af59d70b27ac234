/- The document's recipes are the program's.
   Conditions: none. -/
import Derived.Test.YtenmmeehgnkcpaaHRefRec
import Derived.Test.YtenmmeehgnkcpaaHSim
namespace Go.Proofs.Ytenmmeehgnkcpaa.Q
open Go.RowKit Go.Proofs.YtenmmeehgnkcpaaW.PrintWords Go.Proofs.YtenmmeehgnkcpaaW.PrintLast Go.Proofs.YtenmmeehgnkcpaaW.PrintMore
set_option linter.unusedVariables false
set_option linter.unusedSimpArgs false

def refStep (r : R3) : It → R3
  | .put i => putW r i
  | .add t => addW r t
theorem refStep_pre (r : R3) (x : It) : r.1 <+: (refStep r x).1 := by
  cases x with
  | put i => exact List.prefix_refl _
  | add t =>
    show r.1 <+: (addV r.1 r.2.1 r.2.2 t).1
    unfold addV
    split
    · exact List.prefix_append _ _
    · exact List.prefix_refl _
theorem refFold_pre : ∀ (D : List It) (r : R3), r.1 <+: (D.foldl refStep r).1
  | [], r => List.prefix_refl _
  | x :: D, r => (refStep_pre r x).trans (refFold_pre D (refStep r x))
theorem oneV_items {l : List S28} {r : R3} (hp : l <+: r.1) (x : Int) (h0 : 0 ≤ x) (h1 : x < l.length) : oneV r x = (it2 l x).foldl refStep r := by
  have e := (rd_pre hp x h0 h1).1
  unfold oneV oneT it2
  rw [e]
  by_cases k : (rd_T28 l x).f0 = 4
  · rw [if_pos k, if_pos k, if_pos k]; rfl
  · rw [if_neg k, if_neg k, if_neg k]; rfl
theorem twoV_items {l : List S28} {r : R3} (hp : l <+: r.1) (x y : Int) (h0 : 0 ≤ y) (h1 : y < l.length) : twoV r x y = (it3 l x y).foldl refStep r := by
  have e := (rd_pre hp y h0 h1).1
  unfold twoV twoT it3
  rw [e]
  by_cases k : (rd_T28 l y).f0 = 1
  · rw [if_pos k, if_pos k, if_neg (by omega), if_neg (by omega)]; rfl
  · rw [if_neg k, if_neg k]
    by_cases k2 : (rd_T28 l y).f0 = 5 ∧ (rd_T28 l y).f2 = x
    · rw [if_pos k2, if_pos k2]; rfl
    · rw [if_neg k2, if_neg k2]; rfl
theorem fold_flat {l : List S28} {f : Int → List It} {g : R3 → Int → R3} {fr : List Int} (hg : ∀ x ∈ fr, ∀ r : R3, l <+: r.1 → g r x = (f x).foldl refStep r) : ∀ (fs : List Int), (∀ x ∈ fs, x ∈ fr) → ∀ r : R3, l <+: r.1 → fs.foldl g r = (fs.flatMap f).foldl refStep r
  | [], _, r, _ => rfl
  | x :: fs, hs, r, hp => by
    rw [List.foldl_cons, List.flatMap_cons, List.foldl_append, hg x (hs x (List.mem_cons_self ..)) r hp]
    exact fold_flat hg fs (fun y hy => hs y (List.mem_cons_of_mem _ hy)) _ (hp.trans (refFold_pre _ _))
theorem fold_put : ∀ (fr : List Int) (l : List S28) (p : List Int) (q : Int), (fr.map It.put).foldl refStep (l, p, q) = (l, p ++ fr, q)
  | [], l, p, q => by simp
  | x :: fr, l, p, q => by
    rw [List.map_cons, List.foldl_cons]
    show (fr.map It.put).foldl refStep (l, p ++ [x], q) = _
    rw [fold_put fr l (p ++ [x]) q]
    simp
theorem finalR_items {l : List S28} {fr : List Int} (hfr : ∀ x ∈ fr, 0 ≤ x ∧ x < l.length) : finalR l fr = (items l fr).foldl refStep (l, [], 0) := by
  unfold finalR items
  rw [List.foldl_append, List.foldl_append, fold_put, List.nil_append]
  have h1 : fr.foldl oneV (l, fr, 0) = (fr.flatMap (it2 l)).foldl refStep (l, fr, 0) :=
    fold_flat (l := l) (fr := fr) (fun x hx r hp => oneV_items hp x (hfr x hx).1 (hfr x hx).2) fr (fun _ h => h) _ (List.prefix_refl _)
  rw [h1]
  exact fold_flat (l := l) (fr := fr) (f := fun x => fr.flatMap (it3 l x)) (fun x hx r hp => fold_flat (l := l) (fr := fr) (fun y hy r hp => twoV_items hp x y (hfr y hy).1 (hfr y hy).2) fr (fun _ h => h) r hp) fr (fun _ h => h) _ (refFold_pre (fr.flatMap (it2 l)) (l, fr, 0))
theorem fold_full : ∀ (D : List It) (r : R3), r.2.2 = 6 → (D.foldl refStep r).2.2 = 6
  | [], r, h => h
  | x :: D, r, h => fold_full D (refStep r x) (by
    cases x with
    | put i => exact h
    | add t =>
      show (addV r.1 r.2.1 r.2.2 t).2.2 = 6
      unfold addV
      split
      · show (if _ then 6 else r.2.2) = 6
        split
        · rfl
        · exact h
      · exact h)
theorem ref_run : ∀ (D : List It) (l : List S28) (p : List Int), rightB l = true → (∀ x ∈ D, ∀ n, l.length ≤ n → madeIt n x) →
    ((stL (l, false) D).2 = false → D.foldl refStep (l, p, 0) = ((stL (l, false) D).1, p ++ valsL (l, false) D, 0)) ∧ ((stL (l, false) D).2 = true → (D.foldl refStep (l, p, 0)).2.2 = 6)
  | [], l, p, _, _ => ⟨fun _ => by show (l, p, 0) = (l, p ++ [], 0); rw [List.append_nil], fun h => by cases h⟩
  | .put i :: D, l, p, hr, hm => by
    have := ref_run D l (p ++ [i]) hr (fun x hx => hm x (List.mem_cons_of_mem _ hx))
    refine ⟨fun h => ?_, this.2⟩
    have h2 := this.1 h
    rw [List.append_assoc] at h2
    exact h2
  | .add t :: D, l, p, hr, hm => by
    have h1 : madeB (l.length : Int) (turnT t) = true := hm (.add t) (List.mem_cons_self ..) l.length (Nat.le_refl _)
    have hl := right_len hr
    by_cases hroom : l.length < 400 ∨ 0 ≤ idxT l (turnT t)
    · -- there is room, or it is there
      have hadd : (addR l t).2.2 = 0 ∧ rightB (addR l t).1 = true ∧ l.length ≤ (addR l t).1.length ∧ addW (l, p, 0) t = ((addR l t).1, p ++ [(addR l t).2.1], 0) := by
        unfold addW addV addR
        dsimp only
        rw [if_pos hr, if_pos h1]
        by_cases hi : 0 ≤ idxT l (turnT t)
        · rw [if_pos hi, if_neg (by omega)]
          exact ⟨rfl, hr, Nat.le_refl _, rfl⟩
        · rw [if_neg hi, if_neg (by omega), if_pos (by omega)]
          refine ⟨rfl, right_snoc hr h1 (idx_miss hi) (by omega), by simp, ?_⟩
          simp only
          rw [if_neg (by omega)]
      have ec : cookA (l, false) t = (((addR l t).1, false), (addR l t).2.1) := by
        unfold cookA
        exact if_pos hadd.1
      have hs : stL (l, false) (.add t :: D) = stL ((addR l t).1, false) D := by
        show stL (cookA (l, false) t).1 D = _
        rw [ec]
      have hv : valsL (l, false) (.add t :: D) = (addR l t).2.1 :: valsL ((addR l t).1, false) D := by
        show (cookA (l, false) t).2 :: valsL (cookA (l, false) t).1 D = _
        rw [ec]
      have := ref_run D (addR l t).1 (p ++ [(addR l t).2.1]) hadd.2.1 (fun x hx n hn => hm x (List.mem_cons_of_mem _ hx) n (Nat.le_trans hadd.2.2.1 hn))
      rw [hs, hv]
      have hf : (It.add t :: D).foldl refStep (l, p, 0) = D.foldl refStep ((addR l t).1, p ++ [(addR l t).2.1], 0) := by
        show D.foldl refStep (addW (l, p, 0) t) = _
        rw [hadd.2.2.2]
      rw [hf]
      refine ⟨fun h => ?_, this.2⟩
      rw [this.1 h]
      simp
    · -- there is none
      have hi : ¬ 0 ≤ idxT l (turnT t) := fun h => hroom (.inr h)
      have hl4 : l.length = 400 := by omega
      have ec : cookA (l, false) t = ((l, true), -1) := by
        unfold cookA addR
        rw [if_pos hr, if_pos h1, if_neg hi, if_pos hl4]
        rfl
      have hfull : (stL (l, false) (.add t :: D)).2 = true := by
        show (stL (cookA (l, false) t).1 D).2 = true
        rw [ec]
        exact stL_full D (l, true) rfl
      refine ⟨fun h => (by rw [hfull] at h; cases h), fun _ => ?_⟩
      show (D.foldl refStep (addW (l, p, 0) t)).2.2 = 6
      refine fold_full D _ ?_
      unfold addW addV
      simp only
      rw [if_pos (by omega), if_pos (by omega)]
theorem refR_eq (l : List S28) (fr : List Int) : refR l fr = recR l fr := by
  rcases recR_cases l fr with ⟨h, hr⟩ | ⟨h, hr, h5⟩ | ⟨h, hr, h5, ha⟩ | ⟨hr, h5, ha, hh⟩
  · rw [h]; unfold refR; rw [hr]; rfl
  · rw [h]; unfold refR; rw [if_pos hr, if_pos h5]
  · rw [h]; unfold refR; rw [if_pos hr, if_neg h5, ha]; rfl
  · have hfr := inL_all ha
    have hrun := ref_run (items l fr) l [] hr (items_made hr hfr)
    rw [← finalR_items hfr] at hrun
    unfold refR
    rw [if_pos hr, if_neg h5, if_pos ha]
    rcases hh with ⟨h, hf⟩ | ⟨h, hf⟩
    · rw [hrun.2 hf, h]; rfl
    · rw [hrun.1 hf, h]; rfl
end Go.Proofs.Ytenmmeehgnkcpaa.Q
