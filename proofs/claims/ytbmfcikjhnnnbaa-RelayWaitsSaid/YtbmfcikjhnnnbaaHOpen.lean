/- What a reading of a type gives: an element of the kind, with what its weights allow.
   Conditions: the reading is of the weights that the row tells. -/
import Derived.Test.YtbmfcikjhnnnbaaHTypes
import Derived.Test.YtbmfcikjhnnnbaaRows
import Derived.WalkKit
import Derived.ProofKit
import Derived.OpenShut
import Derived.ShutString
import Derived.ChangeOld
import Derived.Below
import Derived.SizedLaws
import Derived.Deep.Slices
namespace Go.Proofs.Ytbmfcikjhnnnbaa.Q
open Go.RowKit Go.Proofs.YtbmfcikjhnnnbaaW.PrintWords Go.Proofs.YtbmfcikjhnnnbaaW.PrintLast Go.Proofs.YtbmfcikjhnnnbaaW.PrintMore
open Go.ChangeShapes Go.WideShapes Go.ChangeAt Go.Deep
set_option linter.unusedVariables false
set_option maxRecDepth 100000

def Opens {α : Type} (e : TypeId) (d : Kd α) (G : α → Prop) : Prop :=
  ∀ (H : Type) (enc : TypeId × Value → H) (w : World) (base : Nat) (spare : Nat → Bool) (held : Bool) (fuel : Nat) (cs : List Value) (x : DataW H × List MemPlace),
    DataW.trod enc Try.prog w base spare held fuel e cs = some x → (∀ n ∈ x.1.weights Try.prog e, n ≤ reachBytes) → ∃ a, d.K w a cs ∧ G a
theorem opens_int {e : TypeId} {k : IntKind} (hu : Try.prog.underlying e = some (.int k)) : Opens e (Kd.int k) (fun n => (Lit.int k n).wf = true) := by
  intro H enc w base spare held fuel cs x h _
  obtain ⟨n, rfl, rfl, hw⟩ := DataW.trod_int hu h
  exact ⟨n, rfl, hw⟩
theorem opens_bool {e : TypeId} (hu : Try.prog.underlying e = some .bool) : Opens e Kd.bool (fun _ => True) := by
  intro H enc w base spare held fuel cs x h _
  obtain ⟨b, rfl, rfl⟩ := DataW.trod_bool hu h
  exact ⟨b, rfl, trivial⟩
theorem opens_string {e : TypeId} (hu : Try.prog.underlying e = some .string) : Opens e Kd.string (fun s => s.size ≤ reachBytes) := by
  intro H enc w base spare held fuel cs x h hw
  obtain ⟨s, rfl, rfl, hs⟩ := DataW.trod_string hu h
  refine ⟨s, rfl, ?_⟩
  have := hw s.data.toList.length (by simp [DataW.weights])
  simpa using this
theorem weightsAll_mem {H : Type} {P : Program} {e : TypeId} : ∀ {ds : List (DataW H)} {d : DataW H}, d ∈ ds → ∀ n ∈ d.weights P e, n ∈ DataW.weightsAll P e ds
  | d0 :: ds, d, hd, n, hn => by
    simp only [DataW.weightsAll, List.mem_append]
    rcases List.mem_cons.1 hd with rfl | hd
    · exact .inl hn
    · exact .inr (weightsAll_mem hd n hn)
  | [], _, hd, _, _ => by cases hd
theorem opens_slice {α : Type} [Inhabited α] {t e : TypeId} {d : Kd α} {G : α → Prop} (ht : Try.prog.underlying t = some (.slice e)) (hsz : Try.prog.cellsOf e = d.sz) (hO : Opens e d G) {B : Nat} (hB : Try.prog.bytesOf e = B) :
    Opens t (Kd.slice e d) (fun xs => xs.length * B ≤ reachBytes ∧ ∀ a ∈ xs, G a) := by
  intro H enc w base spare held fuel cs x h hw
  rcases open_slice ht h with ⟨rfl, rfl⟩ | ⟨a, len, cap, m, n, D, Pl, rfl, hb, hl, hm, hmm, rfl, hx⟩
  · exact ⟨[], ⟨none, 0, rfl, Nat.le_refl _, Kd.C_nil _ _⟩, by simp, by simp⟩
  have hlm : len ≤ m := by rw [hmm]; split <;> omega
  have hwe : ∀ i, i < len → ∀ n ∈ (D i).weights Try.prog e, n ≤ reachBytes := by
    intro i hi n hn
    refine hw n ?_
    simp only [DataW.weights, ht, List.mem_cons, List.mem_append]
    exact .inr (.inl (weightsAll_mem (List.mem_map.2 ⟨i, List.mem_range.2 hi, rfl⟩) n hn))
  have each : ∀ i, i < len → ∃ q : α × List Value, w.cells? base (a.add (i * d.sz)) d.sz = some q.2 ∧ d.K w q.1 q.2 ∧ G q.1 := by
    intro i hi
    obtain ⟨c, h1, h2⟩ := hx i (by omega)
    rw [hsz] at h1
    obtain ⟨y, hK, hG⟩ := hO H enc w base spare held n c _ h2 (hwe i hi)
    exact ⟨(y, c), h1, hK, hG⟩
  obtain ⟨q, hq⟩ := choose_lt each
  refine ⟨(List.range len).map fun i => (q i).1, ⟨some a, cap, by simp, by simpa using hl, ?_⟩, ?_, ?_⟩
  · refine ⟨rfl, by simp only [List.length_map, List.length_range]; simp only [maxLen] at hm; omega, fun _ => ⟨a, rfl, fun j p hj => ?_⟩⟩
    have hj' : j < len := by
      rcases Nat.lt_or_ge j len with h | h
      · exact h
      · rw [List.getElem?_eq_none (by simpa using h)] at hj; cases hj
    simp only [List.getElem?_map, List.getElem?_range hj', Option.map_some, Option.some.injEq] at hj
    subst hj
    obtain ⟨h1, h2, _⟩ := hq j hj'
    obtain ⟨_, hlen, hcell⟩ := World.cells?_some h1
    refine ⟨(q j).2, hlen, h2, fun i u hu => ?_⟩
    have hi : i < d.sz := by
      rw [← hlen]
      rcases Nat.lt_or_ge i (q j).2.length with h | h
      · exact h
      · rw [List.getElem?_eq_none h] at hu; cases hu
    have e1 := hcell i hi
    rw [Deep.add_add] at e1
    rw [e1]
    exact hu
  · have z := hw ((((List.range len).map D).length + ((List.range (m - len)).map fun j => D (len + j)).length) * Try.prog.bytesOf e) (by simp [DataW.weights, ht])
    rw [hB] at z
    simp only [List.length_map, List.length_range] at z ⊢
    exact Nat.le_trans (Nat.mul_le_mul_right _ (Nat.le_add_right _ _)) z
  · intro y hy
    obtain ⟨i, hi, rfl⟩ := List.mem_map.1 hy
    exact (hq i (List.mem_range.1 hi)).2.2
theorem opens_field {α H : Type} {enc : TypeId × Value → H} {w : World} {base : Nat} {spare : Nat → Bool} {held : Bool} {fuel : Nat} {t : TypeId} {cs : List Value} {x : DataW H × List MemPlace} {fs : Array Field}
    (ht : Try.prog.underlying t = some (.struct fs)) (h : DataW.trod enc Try.prog w base spare held fuel t cs = some x) (hw : ∀ n ∈ x.1.weights Try.prog t, n ≤ reachBytes)
    {i : Nat} {f : Field} (hf : fs[i]? = some f) {d : Kd α} {G : α → Prop} (hO : Opens f.type d G) : ∃ a, d.K w a ((cs.drop f.offset).take (Try.prog.cellsOf f.type)) ∧ G a := by
  obtain ⟨xs, n, rfl, rfl, hl, hx, hg⟩ := DataW.trod_struct ht h
  have hi : i < fs.size := by
    rcases Nat.lt_or_ge i fs.size with h | h
    · exact h
    · rw [Array.getElem?_eq_none h] at hf; cases hf
  have g := hg i f hf
  rw [List.getElem?_eq_getElem (by omega)] at g
  refine hO H enc w base spare held n _ _ g fun n hn => hw n ?_
  simp only [DataW.weights, ht]
  refine DataW.weights_mem_each (j := i) (t := f.type) (d := xs[i].1) ?_ ?_ n hn
  · rw [List.getElem?_map, ← Array.getElem?_toList] at *
    rw [hf]; rfl
  · rw [List.getElem?_map, List.getElem?_eq_getElem (by omega)]; rfl
theorem struct_len {H : Type} {enc : TypeId × Value → H} {w : World} {base : Nat} {spare : Nat → Bool} {held : Bool} {fuel : Nat} {t : TypeId} {cs : List Value} {x : DataW H × List MemPlace} {fs : Array Field}
    (ht : Try.prog.underlying t = some (.struct fs)) (h : DataW.trod enc Try.prog w base spare held fuel t cs = some x) : cs.length = Try.prog.cellsOf t := by
  obtain ⟨xs, n, rfl, rfl, hl, hx, hg⟩ := DataW.trod_struct ht h
  exact hl
theorem list5 {cs : List Value} (h : cs.length = 5) : ∃ a b c d e, cs = [a, b, c, d, e] := by
  match cs, h with
  | [a, b, c, d, e], _ => exact ⟨a, b, c, d, e, rfl⟩
instance : Inhabited S54 := ⟨z54⟩
def good54 (x : S54) : Prop := (fun n : Int => (Lit.int .u64 n).wf = true) x.f0 ∧ (fun s : ByteArray => s.size ≤ reachBytes) x.f1 ∧ (fun n : Int => (Lit.int .u64 n).wf = true) x.f2
theorem opens54 : Opens 54 k54 good54 := by
  intro H enc w base spare held fuel cs x h hw
  have hl := struct_len Try.underlying54 h
  obtain ⟨a0, K0, G0⟩ := opens_field Try.underlying54 h hw (i := 0) rfl (opens_int Try.underlying23)
  obtain ⟨a1, K1, G1⟩ := opens_field Try.underlying54 h hw (i := 1) rfl (opens_string Try.underlying9)
  obtain ⟨a2, K2, G2⟩ := opens_field Try.underlying54 h hw (i := 2) rfl (opens_int Try.underlying23)
  obtain ⟨c0, c1, c2, rfl⟩ : ∃ c0 c1 c2, cs = [c0, c1, c2] := by
    have hl2 := hl.trans (show _ = 3 by kernel_rfl)
    clear h hw hl K0 G0 K1 G1 K2 G2
    match cs, hl2 with
    | [c0, c1, c2], _ => exact ⟨c0, c1, c2, rfl⟩
  exact ⟨⟨a0, a1, a2⟩, ⟨[c0], _, rfl, K0, [c1], _, rfl, K1, K2⟩, G0, G1, G2⟩
def good39 (xs : List (S54)) : Prop := xs.length * 32 ≤ reachBytes ∧ ∀ a ∈ xs, good54 a
theorem opens39 : Opens 39 (Kd.slice 54 k54) good39 := opens_slice (α := S54) Try.underlying39 (by kernel_rfl) opens54 (by kernel_rfl)
instance : Inhabited S57 := ⟨z57⟩
def good57 (x : S57) : Prop := (fun n : Int => (Lit.int .u64 n).wf = true) x.f0 ∧ good39 x.f1
theorem opens57 : Opens 57 k57 good57 := by
  intro H enc w base spare held fuel cs x h hw
  have hl := struct_len Try.underlying57 h
  obtain ⟨a0, K0, G0⟩ := opens_field Try.underlying57 h hw (i := 0) rfl (opens_int Try.underlying23)
  obtain ⟨a1, K1, G1⟩ := opens_field Try.underlying57 h hw (i := 1) rfl opens39
  obtain ⟨c0, c1, rfl⟩ : ∃ c0 c1, cs = [c0, c1] := by
    have hl2 := hl.trans (show _ = 2 by kernel_rfl)
    clear h hw hl K0 G0 K1 G1
    match cs, hl2 with
    | [c0, c1], _ => exact ⟨c0, c1, rfl⟩
  exact ⟨⟨a0, a1⟩, ⟨[c0], _, rfl, K0, K1⟩, G0, G1⟩
def good22 (xs : List (S57)) : Prop := xs.length * 32 ≤ reachBytes ∧ ∀ a ∈ xs, good57 a
theorem opens22 : Opens 22 (Kd.slice 57 k57) good22 := opens_slice (α := S57) Try.underlying22 (by kernel_rfl) opens57 (by kernel_rfl)
instance : Inhabited S25 := ⟨z25⟩
def good25 (x : S25) : Prop := good22 x.f0 ∧ (fun n : Int => (Lit.int .u64 n).wf = true) x.f1 ∧ (fun n : Int => (Lit.int .u64 n).wf = true) x.f2
theorem opens25 : Opens 25 k25 good25 := by
  intro H enc w base spare held fuel cs x h hw
  have hl := struct_len Try.underlying25 h
  obtain ⟨a0, K0, G0⟩ := opens_field Try.underlying25 h hw (i := 0) rfl opens22
  obtain ⟨a1, K1, G1⟩ := opens_field Try.underlying25 h hw (i := 1) rfl (opens_int Try.underlying23)
  obtain ⟨a2, K2, G2⟩ := opens_field Try.underlying25 h hw (i := 2) rfl (opens_int Try.underlying23)
  obtain ⟨c0, c1, c2, rfl⟩ : ∃ c0 c1 c2, cs = [c0, c1, c2] := by
    have hl2 := hl.trans (show _ = 3 by kernel_rfl)
    clear h hw hl K0 G0 K1 G1 K2 G2
    match cs, hl2 with
    | [c0, c1, c2], _ => exact ⟨c0, c1, c2, rfl⟩
  exact ⟨⟨a0, a1, a2⟩, ⟨[c0], _, rfl, K0, [c1], _, rfl, K1, K2⟩, G0, G1, G2⟩
instance : Inhabited S52 := ⟨z52⟩
def good52 (x : S52) : Prop := (fun n : Int => (Lit.int .i64 n).wf = true) x.f0 ∧ (fun n : Int => (Lit.int .u64 n).wf = true) x.f1 ∧ (fun s : ByteArray => s.size ≤ reachBytes) x.f2
theorem opens52 : Opens 52 k52 good52 := by
  intro H enc w base spare held fuel cs x h hw
  have hl := struct_len Try.underlying52 h
  obtain ⟨a0, K0, G0⟩ := opens_field Try.underlying52 h hw (i := 0) rfl (opens_int Try.underlying3)
  obtain ⟨a1, K1, G1⟩ := opens_field Try.underlying52 h hw (i := 1) rfl (opens_int Try.underlying23)
  obtain ⟨a2, K2, G2⟩ := opens_field Try.underlying52 h hw (i := 2) rfl (opens_string Try.underlying9)
  obtain ⟨c0, c1, c2, rfl⟩ : ∃ c0 c1 c2, cs = [c0, c1, c2] := by
    have hl2 := hl.trans (show _ = 3 by kernel_rfl)
    clear h hw hl K0 G0 K1 G1 K2 G2
    match cs, hl2 with
    | [c0, c1, c2], _ => exact ⟨c0, c1, c2, rfl⟩
  exact ⟨⟨a0, a1, a2⟩, ⟨[c0], _, rfl, K0, [c1], _, rfl, K1, K2⟩, G0, G1, G2⟩
def good49 (xs : List (S52)) : Prop := xs.length * 32 ≤ reachBytes ∧ ∀ a ∈ xs, good52 a
theorem opens49 : Opens 49 (Kd.slice 52 k52) good49 := opens_slice (α := S52) Try.underlying49 (by kernel_rfl) opens52 (by kernel_rfl)
end Go.Proofs.Ytbmfcikjhnnnbaa.Q
