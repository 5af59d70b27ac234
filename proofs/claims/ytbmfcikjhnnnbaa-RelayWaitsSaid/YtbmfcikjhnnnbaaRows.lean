/-
  No cell of these rows narrows 'for every input' (looked for: loops, veiled, ifaces, maps, wideKeys, modest, calm, conditions, laid).
  DERIVED. THE GIVEN ROWS OF THIS SEAT. 5 by the template 'for every input the law returns true; each argument reads behind the call as it read before'; 0 by the template 'total and deterministic' (their statements: YtbmfcikjhnnnbaaTotals.lean).
  GIVEN WITH THE SEED: the statements are not yours to turn. If you find one false, say at which input.
  Laid BY PROGRAM, IN A SANDBOX (cutbox-rows.mjs): the forced cells as the released guide's own fill.sh prints them over the translation cfd431e4cbc42e93… (all of the seat's roots in one cut). By AI agents, Wed Nov 11 2026. No macro, syntax, notation, axiom, sorry.
-/
import Derived.Test.YtbmfcikjhnnnbaaChecked
import GoSem.Claim
import GoSem.ClaimJoined
import GoSem.ClaimMapViews
import Derived.JoinedTies
import Derived.KernelRfl
namespace Go.Proofs.Ytbmfcikjhnnnbaa
/- THE CELL 'sum', in the pinned program and in every row, IS THE sha256 OF THE DUMP (.gsa) THAT YtbmfcikjhnnnbaaProg.lean LOADS. Nothing in Lean hashes anything: it is a label: what it is worth is what the hold of that sum in a sandbox is worth. -/
noncomputable def Try.pinned : Pinned := { name := "ytbmfcikjhnnnbaa", sum := "cfd431e4cbc42e93d53c2e7068c5d133e72a85aa93564c44377a46e7c6fa5a0c", checked := Try.checked }
namespace Rows
def none {H : Type} : Left H := { results := [], args := [] }

/-- 'demurrallaw16.RelayPushes': WHATEVER THE INPUT: true; the input reads as it did. -/
def relayPushesSpec : ChangeSpec := { name := "relayPushes", fn := fun _ => fun
  | [d1, d2, d3, d4] => { results := [.lit (.bool true)], args := [d1, d2, d3, d4] }
  | _ => none }
def relayPushesRow : OpenClaim := { program := "ytbmfcikjhnnnbaa", sum := "cfd431e4cbc42e93d53c2e7068c5d133e72a85aa93564c44377a46e7c6fa5a0c", func := "demurral/demurrallaw16.RelayPushes", spec := "relayPushes", inPlace := ["slices.overlaps[demurral/api.Box]"], unfollowed := true, recurses := true, apart := false }
def RelayPushesSaid : Prop := relayPushesRow.holds Try.pinned (OpenSpec.ofChange relayPushesSpec)

/-- ITS FALSE NEIGHBOUR: 'it returns false'. Refute it at one input. -/
def relayPushesWrong : ChangeSpec := { name := "relayPushes", fn := fun _ => fun
  | [d1, d2, d3, d4] => { results := [.lit (.bool false)], args := [d1, d2, d3, d4] }
  | _ => none }
def RelayPushesWrongFalsely : Prop := relayPushesRow.holds Try.pinned (OpenSpec.ofChange relayPushesWrong)

/-- 'demurrallaw16.RelayTicks': WHATEVER THE INPUT: true; the input reads as it did. -/
def relayTicksSpec : ChangeSpec := { name := "relayTicks", fn := fun _ => fun
  | [d1, d2] => { results := [.lit (.bool true)], args := [d1, d2] }
  | _ => none }
def relayTicksRow : OpenClaim := { program := "ytbmfcikjhnnnbaa", sum := "cfd431e4cbc42e93d53c2e7068c5d133e72a85aa93564c44377a46e7c6fa5a0c", func := "demurral/demurrallaw16.RelayTicks", spec := "relayTicks", inPlace := ["slices.overlaps[demurral/api.Box]"], unfollowed := true, recurses := true, apart := false }
def RelayTicksSaid : Prop := relayTicksRow.holds Try.pinned (OpenSpec.ofChange relayTicksSpec)

/-- ITS FALSE NEIGHBOUR: 'it returns false'. Refute it at one input. -/
def relayTicksWrong : ChangeSpec := { name := "relayTicks", fn := fun _ => fun
  | [d1, d2] => { results := [.lit (.bool false)], args := [d1, d2] }
  | _ => none }
def RelayTicksWrongFalsely : Prop := relayTicksRow.holds Try.pinned (OpenSpec.ofChange relayTicksWrong)

/-- 'demurrallaw16.RelayPulls': WHATEVER THE INPUT: true; the input reads as it did. -/
def relayPullsSpec : ChangeSpec := { name := "relayPulls", fn := fun _ => fun
  | [d1, d2, d3] => { results := [.lit (.bool true)], args := [d1, d2, d3] }
  | _ => none }
def relayPullsRow : OpenClaim := { program := "ytbmfcikjhnnnbaa", sum := "cfd431e4cbc42e93d53c2e7068c5d133e72a85aa93564c44377a46e7c6fa5a0c", func := "demurral/demurrallaw16.RelayPulls", spec := "relayPulls", inPlace := ["slices.overlaps[demurral/api.Box]"], unfollowed := true, recurses := true, apart := false }
def RelayPullsSaid : Prop := relayPullsRow.holds Try.pinned (OpenSpec.ofChange relayPullsSpec)

/-- ITS FALSE NEIGHBOUR: 'it returns false'. Refute it at one input. -/
def relayPullsWrong : ChangeSpec := { name := "relayPulls", fn := fun _ => fun
  | [d1, d2, d3] => { results := [.lit (.bool false)], args := [d1, d2, d3] }
  | _ => none }
def RelayPullsWrongFalsely : Prop := relayPullsRow.holds Try.pinned (OpenSpec.ofChange relayPullsWrong)

/-- 'demurrallaw16.RelayApart': WHATEVER THE INPUT: true; the input reads as it did. -/
def relayApartSpec : ChangeSpec := { name := "relayApart", fn := fun _ => fun
  | [d1, d2, d3, d4] => { results := [.lit (.bool true)], args := [d1, d2, d3, d4] }
  | _ => none }
def relayApartRow : OpenClaim := { program := "ytbmfcikjhnnnbaa", sum := "cfd431e4cbc42e93d53c2e7068c5d133e72a85aa93564c44377a46e7c6fa5a0c", func := "demurral/demurrallaw16.RelayApart", spec := "relayApart", inPlace := ["slices.overlaps[demurral/api.Box]"], unfollowed := true, recurses := true, apart := false }
def RelayApartSaid : Prop := relayApartRow.holds Try.pinned (OpenSpec.ofChange relayApartSpec)

/-- ITS FALSE NEIGHBOUR: 'it returns false'. Refute it at one input. -/
def relayApartWrong : ChangeSpec := { name := "relayApart", fn := fun _ => fun
  | [d1, d2, d3, d4] => { results := [.lit (.bool false)], args := [d1, d2, d3, d4] }
  | _ => none }
def RelayApartWrongFalsely : Prop := relayApartRow.holds Try.pinned (OpenSpec.ofChange relayApartWrong)

/-- 'demurrallaw16.RelayWaits': WHATEVER THE INPUT: true; the input reads as it did. -/
def relayWaitsSpec : ChangeSpec := { name := "relayWaits", fn := fun _ => fun
  | [d] => { results := [.lit (.bool true)], args := [d] }
  | _ => none }
def relayWaitsRow : OpenClaim := { program := "ytbmfcikjhnnnbaa", sum := "cfd431e4cbc42e93d53c2e7068c5d133e72a85aa93564c44377a46e7c6fa5a0c", func := "demurral/demurrallaw16.RelayWaits", spec := "relayWaits", inPlace := ["slices.overlaps[demurral/api.Box]"], unfollowed := true, recurses := true, apart := false }
def RelayWaitsSaid : Prop := relayWaitsRow.holds Try.pinned (OpenSpec.ofChange relayWaitsSpec)

/-- ITS FALSE NEIGHBOUR: 'it returns false'. Refute it at one input. -/
def relayWaitsWrong : ChangeSpec := { name := "relayWaits", fn := fun _ => fun
  | [d] => { results := [.lit (.bool false)], args := [d] }
  | _ => none }
def RelayWaitsWrongFalsely : Prop := relayWaitsRow.holds Try.pinned (OpenSpec.ofChange relayWaitsWrong)

/- THE SECOND FORM. 'bulk': how many values and letters a reading holds, each counted each time it is reached (what is shared counts as often as it is met; a slice's spare places count too). A statement '..UptoSaid' is the law's where the arguments, and the package variables that the reading takes, are together of bulk at most 1048576: NARROWER than '..Said'. Prove '..Said' where nothing that the law and all that it calls make is longer than what came in: it says more and counts as full. Else prove '..UptoSaid'. A law counts once. -/
mutual
def uptoBulk {H : Type} : DataW H → Nat
  | .lit (.string bytes) => bytes.length + 1
  | .lit _ => 1
  | .nil => 1
  | .ptr d => uptoBulk d + 1
  | .slice elems spare => uptoBulkAll elems + uptoBulkAll spare + 1
  | .agg parts => uptoBulkAll parts + 1
  | .iface _ d => uptoBulk d + 1
  | .map entries => uptoBulkEntries entries + 1
  | .held _ => 1
def uptoBulkAll {H : Type} : List (DataW H) → Nat
  | [] => 0
  | d :: r => uptoBulk d + uptoBulkAll r
def uptoBulkEntries {H : Type} : List (Lit × DataW H) → Nat
  | [] => 0
  | x :: r => uptoBulkEntry x + uptoBulkEntries r
def uptoBulkEntry {H : Type} : Lit × DataW H → Nat
  | (.string bytes, d) => bytes.length + uptoBulk d + 1
  | (_, d) => uptoBulk d + 1
 end
def uptoSmall : (H : Type) → List (DataW H) → Bool := fun _ ds => decide (uptoBulkAll ds ≤ 1048576)
def OpenSpec.upto (s : _root_.Go.ChangeSpec) : _root_.Go.OpenSpec := { _root_.Go.OpenSpec.ofChange s with cond := some uptoSmall }

/-- 'demurrallaw16.RelayPushes', WHERE WHAT IT READS IS OF BULK AT MOST 1048576: true; the input reads as it did. -/
def relayPushesUptoRow : OpenClaim := { program := "ytbmfcikjhnnnbaa", sum := "cfd431e4cbc42e93d53c2e7068c5d133e72a85aa93564c44377a46e7c6fa5a0c", func := "demurral/demurrallaw16.RelayPushes", spec := "relayPushes", inPlace := ["slices.overlaps[demurral/api.Box]"], unfollowed := true, recurses := true, apart := false, narrowed := true }
def RelayPushesUptoSaid : Prop := relayPushesUptoRow.holds Try.pinned (OpenSpec.upto relayPushesSpec)

/-- 'demurrallaw16.RelayTicks', WHERE WHAT IT READS IS OF BULK AT MOST 1048576: true; the input reads as it did. -/
def relayTicksUptoRow : OpenClaim := { program := "ytbmfcikjhnnnbaa", sum := "cfd431e4cbc42e93d53c2e7068c5d133e72a85aa93564c44377a46e7c6fa5a0c", func := "demurral/demurrallaw16.RelayTicks", spec := "relayTicks", inPlace := ["slices.overlaps[demurral/api.Box]"], unfollowed := true, recurses := true, apart := false, narrowed := true }
def RelayTicksUptoSaid : Prop := relayTicksUptoRow.holds Try.pinned (OpenSpec.upto relayTicksSpec)

/-- 'demurrallaw16.RelayPulls', WHERE WHAT IT READS IS OF BULK AT MOST 1048576: true; the input reads as it did. -/
def relayPullsUptoRow : OpenClaim := { program := "ytbmfcikjhnnnbaa", sum := "cfd431e4cbc42e93d53c2e7068c5d133e72a85aa93564c44377a46e7c6fa5a0c", func := "demurral/demurrallaw16.RelayPulls", spec := "relayPulls", inPlace := ["slices.overlaps[demurral/api.Box]"], unfollowed := true, recurses := true, apart := false, narrowed := true }
def RelayPullsUptoSaid : Prop := relayPullsUptoRow.holds Try.pinned (OpenSpec.upto relayPullsSpec)

/-- 'demurrallaw16.RelayApart', WHERE WHAT IT READS IS OF BULK AT MOST 1048576: true; the input reads as it did. -/
def relayApartUptoRow : OpenClaim := { program := "ytbmfcikjhnnnbaa", sum := "cfd431e4cbc42e93d53c2e7068c5d133e72a85aa93564c44377a46e7c6fa5a0c", func := "demurral/demurrallaw16.RelayApart", spec := "relayApart", inPlace := ["slices.overlaps[demurral/api.Box]"], unfollowed := true, recurses := true, apart := false, narrowed := true }
def RelayApartUptoSaid : Prop := relayApartUptoRow.holds Try.pinned (OpenSpec.upto relayApartSpec)

/-- 'demurrallaw16.RelayWaits', WHERE WHAT IT READS IS OF BULK AT MOST 1048576: true; the input reads as it did. -/
def relayWaitsUptoRow : OpenClaim := { program := "ytbmfcikjhnnnbaa", sum := "cfd431e4cbc42e93d53c2e7068c5d133e72a85aa93564c44377a46e7c6fa5a0c", func := "demurral/demurrallaw16.RelayWaits", spec := "relayWaits", inPlace := ["slices.overlaps[demurral/api.Box]"], unfollowed := true, recurses := true, apart := false, narrowed := true }
def RelayWaitsUptoSaid : Prop := relayWaitsUptoRow.holds Try.pinned (OpenSpec.upto relayWaitsSpec)

end Rows
end Go.Proofs.Ytbmfcikjhnnnbaa
