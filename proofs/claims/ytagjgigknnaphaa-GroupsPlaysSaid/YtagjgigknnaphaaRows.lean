/-
  No cell of these rows narrows 'for every input' (looked for: loops, veiled, ifaces, maps, wideKeys, modest, calm, conditions, laid).
  DERIVED. THE GIVEN ROWS OF THIS SEAT. 4 by the template 'for every input the law returns true; each argument reads behind the call as it read before'; 0 by the template 'total and deterministic' (their statements: YtagjgigknnaphaaTotals.lean).
  GIVEN WITH THE SEED: the statements are not yours to turn. If you find one false, say at which input.
  Laid BY PROGRAM, IN A SANDBOX (cutbox-rows.mjs): the forced cells as the released guide's own fill.sh prints them over the translation 04d1ad41d0f49cb1… (all of the seat's roots in one cut). By AI agents, Wed Nov 11 2026. No macro, syntax, notation, axiom, sorry.
-/
import Derived.Test.YtagjgigknnaphaaChecked
import GoSem.Claim
import GoSem.ClaimJoined
import GoSem.ClaimMapViews
import Derived.JoinedTies
import Derived.KernelRfl
namespace Go.Proofs.Ytagjgigknnaphaa
/- THE CELL 'sum', in the pinned program and in every row, IS THE sha256 OF THE DUMP (.gsa) THAT YtagjgigknnaphaaProg.lean LOADS. Nothing in Lean hashes anything: it is a label: what it is worth is what the hold of that sum in a sandbox is worth. -/
noncomputable def Try.pinned : Pinned := { name := "ytagjgigknnaphaa", sum := "04d1ad41d0f49cb1545b61658f12ddf43b07619b13da9ca6ced093f0e7493cbf", checked := Try.checked }
namespace Rows
def none {H : Type} : Left H := { results := [], args := [] }

/-- 'stadholderlaw7.GroupsUnder': WHATEVER THE INPUT: true; the input reads as it did. -/
def groupsUnderSpec : ChangeSpec := { name := "groupsUnder", fn := fun _ => fun
  | [d1, d2, d3, d4] => { results := [.lit (.bool true)], args := [d1, d2, d3, d4] }
  | _ => none }
def groupsUnderRow : OpenClaim := { program := "ytagjgigknnaphaa", sum := "04d1ad41d0f49cb1545b61658f12ddf43b07619b13da9ca6ced093f0e7493cbf", func := "stadholder/stadholderlaw7.GroupsUnder", spec := "groupsUnder", unfollowed := true, recurses := true, apart := false }
def GroupsUnderSaid : Prop := groupsUnderRow.holds Try.pinned (OpenSpec.ofChange groupsUnderSpec)

/-- ITS FALSE NEIGHBOUR: 'it returns false'. Refute it at one input. -/
def groupsUnderWrong : ChangeSpec := { name := "groupsUnder", fn := fun _ => fun
  | [d1, d2, d3, d4] => { results := [.lit (.bool false)], args := [d1, d2, d3, d4] }
  | _ => none }
def GroupsUnderWrongFalsely : Prop := groupsUnderRow.holds Try.pinned (OpenSpec.ofChange groupsUnderWrong)

/-- 'stadholderlaw7.GroupsChains': WHATEVER THE INPUT: true; the input reads as it did. -/
def groupsChainsSpec : ChangeSpec := { name := "groupsChains", fn := fun _ => fun
  | [d] => { results := [.lit (.bool true)], args := [d] }
  | _ => none }
def groupsChainsRow : OpenClaim := { program := "ytagjgigknnaphaa", sum := "04d1ad41d0f49cb1545b61658f12ddf43b07619b13da9ca6ced093f0e7493cbf", func := "stadholder/stadholderlaw7.GroupsChains", spec := "groupsChains", unfollowed := true, recurses := true, apart := false }
def GroupsChainsSaid : Prop := groupsChainsRow.holds Try.pinned (OpenSpec.ofChange groupsChainsSpec)

/-- ITS FALSE NEIGHBOUR: 'it returns false'. Refute it at one input. -/
def groupsChainsWrong : ChangeSpec := { name := "groupsChains", fn := fun _ => fun
  | [d] => { results := [.lit (.bool false)], args := [d] }
  | _ => none }
def GroupsChainsWrongFalsely : Prop := groupsChainsRow.holds Try.pinned (OpenSpec.ofChange groupsChainsWrong)

/-- 'stadholderlaw7.GroupsPlays': WHATEVER THE INPUT: true; the input reads as it did. -/
def groupsPlaysSpec : ChangeSpec := { name := "groupsPlays", fn := fun _ => fun
  | [d] => { results := [.lit (.bool true)], args := [d] }
  | _ => none }
def groupsPlaysRow : OpenClaim := { program := "ytagjgigknnaphaa", sum := "04d1ad41d0f49cb1545b61658f12ddf43b07619b13da9ca6ced093f0e7493cbf", func := "stadholder/stadholderlaw7.GroupsPlays", spec := "groupsPlays", unfollowed := true, recurses := true, apart := false }
def GroupsPlaysSaid : Prop := groupsPlaysRow.holds Try.pinned (OpenSpec.ofChange groupsPlaysSpec)

/-- ITS FALSE NEIGHBOUR: 'it returns false'. Refute it at one input. -/
def groupsPlaysWrong : ChangeSpec := { name := "groupsPlays", fn := fun _ => fun
  | [d] => { results := [.lit (.bool false)], args := [d] }
  | _ => none }
def GroupsPlaysWrongFalsely : Prop := groupsPlaysRow.holds Try.pinned (OpenSpec.ofChange groupsPlaysWrong)

/-- 'stadholderlaw7.GroupsKnown': WHATEVER THE INPUT: true; the input reads as it did. -/
def groupsKnownSpec : ChangeSpec := { name := "groupsKnown", fn := fun _ => fun
  | [] => { results := [.lit (.bool true)], args := [] }
  | _ => none }
def groupsKnownRow : OpenClaim := { program := "ytagjgigknnaphaa", sum := "04d1ad41d0f49cb1545b61658f12ddf43b07619b13da9ca6ced093f0e7493cbf", func := "stadholder/stadholderlaw7.GroupsKnown", spec := "groupsKnown", unfollowed := true, recurses := true, apart := false }
def GroupsKnownSaid : Prop := groupsKnownRow.holds Try.pinned (OpenSpec.ofChange groupsKnownSpec)

/-- ITS FALSE NEIGHBOUR: 'it returns false'. Refute it at one input. -/
def groupsKnownWrong : ChangeSpec := { name := "groupsKnown", fn := fun _ => fun
  | [] => { results := [.lit (.bool false)], args := [] }
  | _ => none }
def GroupsKnownWrongFalsely : Prop := groupsKnownRow.holds Try.pinned (OpenSpec.ofChange groupsKnownWrong)

/- THE SECOND FORM. 'bulk': how many values and letters a reading holds, each counted each time it is reached (what is shared counts as often as it is met; a slice's spare places count too). A statement '..UptoSaid' is the law's where the arguments, and the package variables that the reading takes, are together of bulk at most 1048576: NARROWER than '..Said'. Prove '..Said' where nothing that the law and all that it calls make is longer than what came in: it says more and counts as full. Else prove '..UptoSaid'. A law counts once. -/
mutual
def uptoBulk {H : Type} : DataW H → Nat
  | .lit (.string bytes) => bytes.length + 1
  | .lit _ => 1
  | .nil => 1
  | .ptr d => uptoBulk d + 1
  | .slice elems spare => uptoBulkAll elems + uptoBulkAll spare + 1
  | .agg parts => uptoBulkAll parts + 1
  | .iface _ d => uptoBulk d + 1
  | .map entries => uptoBulkEntries entries + 1
  | .held _ => 1
def uptoBulkAll {H : Type} : List (DataW H) → Nat
  | [] => 0
  | d :: r => uptoBulk d + uptoBulkAll r
def uptoBulkEntries {H : Type} : List (Lit × DataW H) → Nat
  | [] => 0
  | x :: r => uptoBulkEntry x + uptoBulkEntries r
def uptoBulkEntry {H : Type} : Lit × DataW H → Nat
  | (.string bytes, d) => bytes.length + uptoBulk d + 1
  | (_, d) => uptoBulk d + 1
 end
def uptoSmall : (H : Type) → List (DataW H) → Bool := fun _ ds => decide (uptoBulkAll ds ≤ 1048576)
def OpenSpec.upto (s : _root_.Go.ChangeSpec) : _root_.Go.OpenSpec := { _root_.Go.OpenSpec.ofChange s with cond := some uptoSmall }

/-- 'stadholderlaw7.GroupsUnder', WHERE WHAT IT READS IS OF BULK AT MOST 1048576: true; the input reads as it did. -/
def groupsUnderUptoRow : OpenClaim := { program := "ytagjgigknnaphaa", sum := "04d1ad41d0f49cb1545b61658f12ddf43b07619b13da9ca6ced093f0e7493cbf", func := "stadholder/stadholderlaw7.GroupsUnder", spec := "groupsUnder", unfollowed := true, recurses := true, apart := false, narrowed := true }
def GroupsUnderUptoSaid : Prop := groupsUnderUptoRow.holds Try.pinned (OpenSpec.upto groupsUnderSpec)

/-- 'stadholderlaw7.GroupsChains', WHERE WHAT IT READS IS OF BULK AT MOST 1048576: true; the input reads as it did. -/
def groupsChainsUptoRow : OpenClaim := { program := "ytagjgigknnaphaa", sum := "04d1ad41d0f49cb1545b61658f12ddf43b07619b13da9ca6ced093f0e7493cbf", func := "stadholder/stadholderlaw7.GroupsChains", spec := "groupsChains", unfollowed := true, recurses := true, apart := false, narrowed := true }
def GroupsChainsUptoSaid : Prop := groupsChainsUptoRow.holds Try.pinned (OpenSpec.upto groupsChainsSpec)

/-- 'stadholderlaw7.GroupsPlays', WHERE WHAT IT READS IS OF BULK AT MOST 1048576: true; the input reads as it did. -/
def groupsPlaysUptoRow : OpenClaim := { program := "ytagjgigknnaphaa", sum := "04d1ad41d0f49cb1545b61658f12ddf43b07619b13da9ca6ced093f0e7493cbf", func := "stadholder/stadholderlaw7.GroupsPlays", spec := "groupsPlays", unfollowed := true, recurses := true, apart := false, narrowed := true }
def GroupsPlaysUptoSaid : Prop := groupsPlaysUptoRow.holds Try.pinned (OpenSpec.upto groupsPlaysSpec)

/-- 'stadholderlaw7.GroupsKnown', WHERE WHAT IT READS IS OF BULK AT MOST 1048576: true; the input reads as it did. -/
def groupsKnownUptoRow : OpenClaim := { program := "ytagjgigknnaphaa", sum := "04d1ad41d0f49cb1545b61658f12ddf43b07619b13da9ca6ced093f0e7493cbf", func := "stadholder/stadholderlaw7.GroupsKnown", spec := "groupsKnown", unfollowed := true, recurses := true, apart := false, narrowed := true }
def GroupsKnownUptoSaid : Prop := groupsKnownUptoRow.holds Try.pinned (OpenSpec.upto groupsKnownSpec)

end Rows
end Go.Proofs.Ytagjgigknnaphaa
