/-
  No cell of these rows narrows 'for every input' (looked for: loops, veiled, ifaces, maps, wideKeys, modest, calm, conditions, laid).
  DERIVED. THE GIVEN ROWS OF THIS SEAT. 8 by the template 'for every input the law returns true; each argument reads behind the call as it read before'; 0 by the template 'total and deterministic' (their statements: YtenmmeehgnkcpaaTotals.lean).
  GIVEN WITH THE SEED: the statements are not yours to turn. If you find one false, say at which input.
  Laid BY PROGRAM, IN A SANDBOX (cutbox-rows.mjs): the forced cells as the released guide's own fill.sh prints them over the translation 9b01c82c95351b0c… (all of the seat's roots in one cut). By AI agents, Wed Nov 11 2026. No macro, syntax, notation, axiom, sorry.
-/
import Derived.Test.YtenmmeehgnkcpaaChecked
import GoSem.Claim
import GoSem.ClaimJoined
import GoSem.ClaimMapViews
import Derived.JoinedTies
import Derived.KernelRfl
namespace Go.Proofs.Ytenmmeehgnkcpaa
/- THE CELL 'sum', in the pinned program and in every row, IS THE sha256 OF THE DUMP (.gsa) THAT YtenmmeehgnkcpaaProg.lean LOADS. Nothing in Lean hashes anything: it is a label: what it is worth is what the hold of that sum in a sandbox is worth. -/
noncomputable def Try.pinned : Pinned := { name := "ytenmmeehgnkcpaa", sum := "9b01c82c95351b0cd46a7027dbfd946add826440bd70c944bf0c0b1f6b234dbb", checked := Try.checked }
namespace Rows
def none {H : Type} : Left H := { results := [], args := [] }

/-- 'demurraltop.TopDenies': WHATEVER THE INPUT: true; the input reads as it did. -/
def topDeniesSpec : ChangeSpec := { name := "topDenies", fn := fun _ => fun
  | [d1, d2] => { results := [.lit (.bool true)], args := [d1, d2] }
  | _ => none }
def topDeniesRow : OpenClaim := { program := "ytenmmeehgnkcpaa", sum := "9b01c82c95351b0cd46a7027dbfd946add826440bd70c944bf0c0b1f6b234dbb", func := "demurral/demurraltop.TopDenies", spec := "topDenies", unfollowed := true, recurses := true, plainKeys := false, apart := false }
def TopDeniesSaid : Prop := topDeniesRow.holds Try.pinned (OpenSpec.ofChange topDeniesSpec)

/-- ITS FALSE NEIGHBOUR: 'it returns false'. Refute it at one input. -/
def topDeniesWrong : ChangeSpec := { name := "topDenies", fn := fun _ => fun
  | [d1, d2] => { results := [.lit (.bool false)], args := [d1, d2] }
  | _ => none }
def TopDeniesWrongFalsely : Prop := topDeniesRow.holds Try.pinned (OpenSpec.ofChange topDeniesWrong)

/-- 'demurraltop.TopSecret': WHATEVER THE INPUT: true; the input reads as it did. -/
def topSecretSpec : ChangeSpec := { name := "topSecret", fn := fun _ => fun
  | [d1, d2] => { results := [.lit (.bool true)], args := [d1, d2] }
  | _ => none }
def topSecretRow : OpenClaim := { program := "ytenmmeehgnkcpaa", sum := "9b01c82c95351b0cd46a7027dbfd946add826440bd70c944bf0c0b1f6b234dbb", func := "demurral/demurraltop.TopSecret", spec := "topSecret", unfollowed := true, recurses := true, plainKeys := false, apart := false }
def TopSecretSaid : Prop := topSecretRow.holds Try.pinned (OpenSpec.ofChange topSecretSpec)

/-- ITS FALSE NEIGHBOUR: 'it returns false'. Refute it at one input. -/
def topSecretWrong : ChangeSpec := { name := "topSecret", fn := fun _ => fun
  | [d1, d2] => { results := [.lit (.bool false)], args := [d1, d2] }
  | _ => none }
def TopSecretWrongFalsely : Prop := topSecretRow.holds Try.pinned (OpenSpec.ofChange topSecretWrong)

/-- 'demurrallaw21.DeduceGrows': WHATEVER THE INPUT: true; the input reads as it did. -/
def deduceGrowsSpec : ChangeSpec := { name := "deduceGrows", fn := fun _ => fun
  | [d1, d2, d3] => { results := [.lit (.bool true)], args := [d1, d2, d3] }
  | _ => none }
def deduceGrowsRow : OpenClaim := { program := "ytenmmeehgnkcpaa", sum := "9b01c82c95351b0cd46a7027dbfd946add826440bd70c944bf0c0b1f6b234dbb", func := "demurral/demurrallaw21.DeduceGrows", spec := "deduceGrows", unfollowed := true, recurses := true, plainKeys := false, apart := false }
def DeduceGrowsSaid : Prop := deduceGrowsRow.holds Try.pinned (OpenSpec.ofChange deduceGrowsSpec)

/-- ITS FALSE NEIGHBOUR: 'it returns false'. Refute it at one input. -/
def deduceGrowsWrong : ChangeSpec := { name := "deduceGrows", fn := fun _ => fun
  | [d1, d2, d3] => { results := [.lit (.bool false)], args := [d1, d2, d3] }
  | _ => none }
def DeduceGrowsWrongFalsely : Prop := deduceGrowsRow.holds Try.pinned (OpenSpec.ofChange deduceGrowsWrong)

/-- 'demurrallaw21.DeduceSecret': WHATEVER THE INPUT: true; the input reads as it did. -/
def deduceSecretSpec : ChangeSpec := { name := "deduceSecret", fn := fun _ => fun
  | [d1, d2, d3, d4] => { results := [.lit (.bool true)], args := [d1, d2, d3, d4] }
  | _ => none }
def deduceSecretRow : OpenClaim := { program := "ytenmmeehgnkcpaa", sum := "9b01c82c95351b0cd46a7027dbfd946add826440bd70c944bf0c0b1f6b234dbb", func := "demurral/demurrallaw21.DeduceSecret", spec := "deduceSecret", unfollowed := true, recurses := true, plainKeys := false, apart := false }
def DeduceSecretSaid : Prop := deduceSecretRow.holds Try.pinned (OpenSpec.ofChange deduceSecretSpec)

/-- ITS FALSE NEIGHBOUR: 'it returns false'. Refute it at one input. -/
def deduceSecretWrong : ChangeSpec := { name := "deduceSecret", fn := fun _ => fun
  | [d1, d2, d3, d4] => { results := [.lit (.bool false)], args := [d1, d2, d3, d4] }
  | _ => none }
def DeduceSecretWrongFalsely : Prop := deduceSecretRow.holds Try.pinned (OpenSpec.ofChange deduceSecretWrong)

/-- 'demurrallaw21.DeduceTells': WHATEVER THE INPUT: true; the input reads as it did. -/
def deduceTellsSpec : ChangeSpec := { name := "deduceTells", fn := fun _ => fun
  | [d1, d2, d3] => { results := [.lit (.bool true)], args := [d1, d2, d3] }
  | _ => none }
def deduceTellsRow : OpenClaim := { program := "ytenmmeehgnkcpaa", sum := "9b01c82c95351b0cd46a7027dbfd946add826440bd70c944bf0c0b1f6b234dbb", func := "demurral/demurrallaw21.DeduceTells", spec := "deduceTells", unfollowed := true, recurses := true, plainKeys := false, apart := false }
def DeduceTellsSaid : Prop := deduceTellsRow.holds Try.pinned (OpenSpec.ofChange deduceTellsSpec)

/-- ITS FALSE NEIGHBOUR: 'it returns false'. Refute it at one input. -/
def deduceTellsWrong : ChangeSpec := { name := "deduceTells", fn := fun _ => fun
  | [d1, d2, d3] => { results := [.lit (.bool false)], args := [d1, d2, d3] }
  | _ => none }
def DeduceTellsWrongFalsely : Prop := deduceTellsRow.holds Try.pinned (OpenSpec.ofChange deduceTellsWrong)

/-- 'demurrallaw22.EquivRecipes': WHATEVER THE INPUT: true; the input reads as it did. -/
def equivRecipesSpec : ChangeSpec := { name := "equivRecipes", fn := fun _ => fun
  | [d1, d2] => { results := [.lit (.bool true)], args := [d1, d2] }
  | _ => none }
def equivRecipesRow : OpenClaim := { program := "ytenmmeehgnkcpaa", sum := "9b01c82c95351b0cd46a7027dbfd946add826440bd70c944bf0c0b1f6b234dbb", func := "demurral/demurrallaw22.EquivRecipes", spec := "equivRecipes", unfollowed := true, recurses := true, plainKeys := false, apart := false }
def EquivRecipesSaid : Prop := equivRecipesRow.holds Try.pinned (OpenSpec.ofChange equivRecipesSpec)

/-- ITS FALSE NEIGHBOUR: 'it returns false'. Refute it at one input. -/
def equivRecipesWrong : ChangeSpec := { name := "equivRecipes", fn := fun _ => fun
  | [d1, d2] => { results := [.lit (.bool false)], args := [d1, d2] }
  | _ => none }
def EquivRecipesWrongFalsely : Prop := equivRecipesRow.holds Try.pinned (OpenSpec.ofChange equivRecipesWrong)

/-- 'demurrallaw22.EquivTells': WHATEVER THE INPUT: true; the input reads as it did. -/
def equivTellsSpec : ChangeSpec := { name := "equivTells", fn := fun _ => fun
  | [d1, d2, d3] => { results := [.lit (.bool true)], args := [d1, d2, d3] }
  | _ => none }
def equivTellsRow : OpenClaim := { program := "ytenmmeehgnkcpaa", sum := "9b01c82c95351b0cd46a7027dbfd946add826440bd70c944bf0c0b1f6b234dbb", func := "demurral/demurrallaw22.EquivTells", spec := "equivTells", unfollowed := true, recurses := true, plainKeys := false, apart := false }
def EquivTellsSaid : Prop := equivTellsRow.holds Try.pinned (OpenSpec.ofChange equivTellsSpec)

/-- ITS FALSE NEIGHBOUR: 'it returns false'. Refute it at one input. -/
def equivTellsWrong : ChangeSpec := { name := "equivTells", fn := fun _ => fun
  | [d1, d2, d3] => { results := [.lit (.bool false)], args := [d1, d2, d3] }
  | _ => none }
def EquivTellsWrongFalsely : Prop := equivTellsRow.holds Try.pinned (OpenSpec.ofChange equivTellsWrong)

/-- 'demurrallaw22.EquivNames': WHATEVER THE INPUT: true; the input reads as it did. -/
def equivNamesSpec : ChangeSpec := { name := "equivNames", fn := fun _ => fun
  | [d1, d2] => { results := [.lit (.bool true)], args := [d1, d2] }
  | _ => none }
def equivNamesRow : OpenClaim := { program := "ytenmmeehgnkcpaa", sum := "9b01c82c95351b0cd46a7027dbfd946add826440bd70c944bf0c0b1f6b234dbb", func := "demurral/demurrallaw22.EquivNames", spec := "equivNames", unfollowed := true, recurses := true, plainKeys := false, apart := false }
def EquivNamesSaid : Prop := equivNamesRow.holds Try.pinned (OpenSpec.ofChange equivNamesSpec)

/-- ITS FALSE NEIGHBOUR: 'it returns false'. Refute it at one input. -/
def equivNamesWrong : ChangeSpec := { name := "equivNames", fn := fun _ => fun
  | [d1, d2] => { results := [.lit (.bool false)], args := [d1, d2] }
  | _ => none }
def EquivNamesWrongFalsely : Prop := equivNamesRow.holds Try.pinned (OpenSpec.ofChange equivNamesWrong)

/- THE SECOND FORM. 'bulk': how many values and letters a reading holds, each counted each time it is reached (what is shared counts as often as it is met; a slice's spare places count too). A statement '..UptoSaid' is the law's where the arguments, and the package variables that the reading takes, are together of bulk at most 1048576: NARROWER than '..Said'. Prove '..Said' where nothing that the law and all that it calls make is longer than what came in: it says more and counts as full. Else prove '..UptoSaid'. A law counts once. -/
mutual
def uptoBulk {H : Type} : DataW H → Nat
  | .lit (.string bytes) => bytes.length + 1
  | .lit _ => 1
  | .nil => 1
  | .ptr d => uptoBulk d + 1
  | .slice elems spare => uptoBulkAll elems + uptoBulkAll spare + 1
  | .agg parts => uptoBulkAll parts + 1
  | .iface _ d => uptoBulk d + 1
  | .map entries => uptoBulkEntries entries + 1
  | .held _ => 1
def uptoBulkAll {H : Type} : List (DataW H) → Nat
  | [] => 0
  | d :: r => uptoBulk d + uptoBulkAll r
def uptoBulkEntries {H : Type} : List (Lit × DataW H) → Nat
  | [] => 0
  | x :: r => uptoBulkEntry x + uptoBulkEntries r
def uptoBulkEntry {H : Type} : Lit × DataW H → Nat
  | (.string bytes, d) => bytes.length + uptoBulk d + 1
  | (_, d) => uptoBulk d + 1
 end
def uptoSmall : (H : Type) → List (DataW H) → Bool := fun _ ds => decide (uptoBulkAll ds ≤ 1048576)
def OpenSpec.upto (s : _root_.Go.ChangeSpec) : _root_.Go.OpenSpec := { _root_.Go.OpenSpec.ofChange s with cond := some uptoSmall }

/-- 'demurraltop.TopDenies', WHERE WHAT IT READS IS OF BULK AT MOST 1048576: true; the input reads as it did. -/
def topDeniesUptoRow : OpenClaim := { program := "ytenmmeehgnkcpaa", sum := "9b01c82c95351b0cd46a7027dbfd946add826440bd70c944bf0c0b1f6b234dbb", func := "demurral/demurraltop.TopDenies", spec := "topDenies", unfollowed := true, recurses := true, plainKeys := false, apart := false, narrowed := true }
def TopDeniesUptoSaid : Prop := topDeniesUptoRow.holds Try.pinned (OpenSpec.upto topDeniesSpec)

/-- 'demurraltop.TopSecret', WHERE WHAT IT READS IS OF BULK AT MOST 1048576: true; the input reads as it did. -/
def topSecretUptoRow : OpenClaim := { program := "ytenmmeehgnkcpaa", sum := "9b01c82c95351b0cd46a7027dbfd946add826440bd70c944bf0c0b1f6b234dbb", func := "demurral/demurraltop.TopSecret", spec := "topSecret", unfollowed := true, recurses := true, plainKeys := false, apart := false, narrowed := true }
def TopSecretUptoSaid : Prop := topSecretUptoRow.holds Try.pinned (OpenSpec.upto topSecretSpec)

/-- 'demurrallaw21.DeduceGrows', WHERE WHAT IT READS IS OF BULK AT MOST 1048576: true; the input reads as it did. -/
def deduceGrowsUptoRow : OpenClaim := { program := "ytenmmeehgnkcpaa", sum := "9b01c82c95351b0cd46a7027dbfd946add826440bd70c944bf0c0b1f6b234dbb", func := "demurral/demurrallaw21.DeduceGrows", spec := "deduceGrows", unfollowed := true, recurses := true, plainKeys := false, apart := false, narrowed := true }
def DeduceGrowsUptoSaid : Prop := deduceGrowsUptoRow.holds Try.pinned (OpenSpec.upto deduceGrowsSpec)

/-- 'demurrallaw21.DeduceSecret', WHERE WHAT IT READS IS OF BULK AT MOST 1048576: true; the input reads as it did. -/
def deduceSecretUptoRow : OpenClaim := { program := "ytenmmeehgnkcpaa", sum := "9b01c82c95351b0cd46a7027dbfd946add826440bd70c944bf0c0b1f6b234dbb", func := "demurral/demurrallaw21.DeduceSecret", spec := "deduceSecret", unfollowed := true, recurses := true, plainKeys := false, apart := false, narrowed := true }
def DeduceSecretUptoSaid : Prop := deduceSecretUptoRow.holds Try.pinned (OpenSpec.upto deduceSecretSpec)

/-- 'demurrallaw21.DeduceTells', WHERE WHAT IT READS IS OF BULK AT MOST 1048576: true; the input reads as it did. -/
def deduceTellsUptoRow : OpenClaim := { program := "ytenmmeehgnkcpaa", sum := "9b01c82c95351b0cd46a7027dbfd946add826440bd70c944bf0c0b1f6b234dbb", func := "demurral/demurrallaw21.DeduceTells", spec := "deduceTells", unfollowed := true, recurses := true, plainKeys := false, apart := false, narrowed := true }
def DeduceTellsUptoSaid : Prop := deduceTellsUptoRow.holds Try.pinned (OpenSpec.upto deduceTellsSpec)

/-- 'demurrallaw22.EquivRecipes', WHERE WHAT IT READS IS OF BULK AT MOST 1048576: true; the input reads as it did. -/
def equivRecipesUptoRow : OpenClaim := { program := "ytenmmeehgnkcpaa", sum := "9b01c82c95351b0cd46a7027dbfd946add826440bd70c944bf0c0b1f6b234dbb", func := "demurral/demurrallaw22.EquivRecipes", spec := "equivRecipes", unfollowed := true, recurses := true, plainKeys := false, apart := false, narrowed := true }
def EquivRecipesUptoSaid : Prop := equivRecipesUptoRow.holds Try.pinned (OpenSpec.upto equivRecipesSpec)

/-- 'demurrallaw22.EquivTells', WHERE WHAT IT READS IS OF BULK AT MOST 1048576: true; the input reads as it did. -/
def equivTellsUptoRow : OpenClaim := { program := "ytenmmeehgnkcpaa", sum := "9b01c82c95351b0cd46a7027dbfd946add826440bd70c944bf0c0b1f6b234dbb", func := "demurral/demurrallaw22.EquivTells", spec := "equivTells", unfollowed := true, recurses := true, plainKeys := false, apart := false, narrowed := true }
def EquivTellsUptoSaid : Prop := equivTellsUptoRow.holds Try.pinned (OpenSpec.upto equivTellsSpec)

/-- 'demurrallaw22.EquivNames', WHERE WHAT IT READS IS OF BULK AT MOST 1048576: true; the input reads as it did. -/
def equivNamesUptoRow : OpenClaim := { program := "ytenmmeehgnkcpaa", sum := "9b01c82c95351b0cd46a7027dbfd946add826440bd70c944bf0c0b1f6b234dbb", func := "demurral/demurrallaw22.EquivNames", spec := "equivNames", unfollowed := true, recurses := true, plainKeys := false, apart := false, narrowed := true }
def EquivNamesUptoSaid : Prop := equivNamesUptoRow.holds Try.pinned (OpenSpec.upto equivNamesSpec)

end Rows
end Go.Proofs.Ytenmmeehgnkcpaa
