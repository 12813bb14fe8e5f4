/-
  No cell of these rows narrows 'for every input' (looked for: loops, veiled, ifaces, maps, wideKeys, modest, calm, conditions, laid).
  DERIVED. THE GIVEN ROWS OF THIS SEAT. 4 by the template 'for every input the law returns true; each argument reads behind the call as it read before'; 0 by the template 'total and deterministic' (their statements: YtlandojofjkeaaaTotals.lean).
  GIVEN WITH THE SEED: the statements are not yours to turn. If you find one false, say at which input.
  Laid BY PROGRAM, IN A SANDBOX (cutbox-rows.mjs): the forced cells as the released guide's own fill.sh prints them over the translation d73c49cae52e0429… (all of the seat's roots in one cut). By AI agents, Wed Nov 11 2026. No macro, syntax, notation, axiom, sorry.
-/
import Derived.Test.YtlandojofjkeaaaChecked
import GoSem.Claim
import GoSem.ClaimJoined
import GoSem.ClaimMapViews
import Derived.JoinedTies
import Derived.KernelRfl
namespace Go.Proofs.Ytlandojofjkeaaa
/- THE CELL 'sum', in the pinned program and in every row, IS THE sha256 OF THE DUMP (.gsa) THAT YtlandojofjkeaaaProg.lean LOADS. Nothing in Lean hashes anything: it is a label: what it is worth is what the hold of that sum in a sandbox is worth. -/
noncomputable def Try.pinned : Pinned := { name := "ytlandojofjkeaaa", sum := "d73c49cae52e04292a560fdda534ce2147e0faabd5efd5dc144c285f63be9723", checked := Try.checked }
namespace Rows
def none {H : Type} : Left H := { results := [], args := [] }

/-- 'stadholderlaw19.ElderTags': WHATEVER THE INPUT: true; the input reads as it did. -/
def elderTagsSpec : ChangeSpec := { name := "elderTags", fn := fun _ => fun
  | [d] => { results := [.lit (.bool true)], args := [d] }
  | _ => none }
def elderTagsRow : OpenClaim := { program := "ytlandojofjkeaaa", sum := "d73c49cae52e04292a560fdda534ce2147e0faabd5efd5dc144c285f63be9723", func := "stadholder/stadholderlaw19.ElderTags", spec := "elderTags", unfollowed := true, recurses := true, apart := false }
def ElderTagsSaid : Prop := elderTagsRow.holds Try.pinned (OpenSpec.ofChange elderTagsSpec)

/-- ITS FALSE NEIGHBOUR: 'it returns false'. Refute it at one input. -/
def elderTagsWrong : ChangeSpec := { name := "elderTags", fn := fun _ => fun
  | [d] => { results := [.lit (.bool false)], args := [d] }
  | _ => none }
def ElderTagsWrongFalsely : Prop := elderTagsRow.holds Try.pinned (OpenSpec.ofChange elderTagsWrong)

/-- 'stadholderlaw19.ElderSays': WHATEVER THE INPUT: true; the input reads as it did. -/
def elderSaysSpec : ChangeSpec := { name := "elderSays", fn := fun _ => fun
  | [d1, d2, d3] => { results := [.lit (.bool true)], args := [d1, d2, d3] }
  | _ => none }
def elderSaysRow : OpenClaim := { program := "ytlandojofjkeaaa", sum := "d73c49cae52e04292a560fdda534ce2147e0faabd5efd5dc144c285f63be9723", func := "stadholder/stadholderlaw19.ElderSays", spec := "elderSays", unfollowed := true, recurses := true, apart := false }
def ElderSaysSaid : Prop := elderSaysRow.holds Try.pinned (OpenSpec.ofChange elderSaysSpec)

/-- ITS FALSE NEIGHBOUR: 'it returns false'. Refute it at one input. -/
def elderSaysWrong : ChangeSpec := { name := "elderSays", fn := fun _ => fun
  | [d1, d2, d3] => { results := [.lit (.bool false)], args := [d1, d2, d3] }
  | _ => none }
def ElderSaysWrongFalsely : Prop := elderSaysRow.holds Try.pinned (OpenSpec.ofChange elderSaysWrong)

/-- 'stadholderlaw19.ElderUp': WHATEVER THE INPUT: true; the input reads as it did. -/
def elderUpSpec : ChangeSpec := { name := "elderUp", fn := fun _ => fun
  | [d1, d2] => { results := [.lit (.bool true)], args := [d1, d2] }
  | _ => none }
def elderUpRow : OpenClaim := { program := "ytlandojofjkeaaa", sum := "d73c49cae52e04292a560fdda534ce2147e0faabd5efd5dc144c285f63be9723", func := "stadholder/stadholderlaw19.ElderUp", spec := "elderUp", unfollowed := true, recurses := true, apart := false }
def ElderUpSaid : Prop := elderUpRow.holds Try.pinned (OpenSpec.ofChange elderUpSpec)

/-- ITS FALSE NEIGHBOUR: 'it returns false'. Refute it at one input. -/
def elderUpWrong : ChangeSpec := { name := "elderUp", fn := fun _ => fun
  | [d1, d2] => { results := [.lit (.bool false)], args := [d1, d2] }
  | _ => none }
def ElderUpWrongFalsely : Prop := elderUpRow.holds Try.pinned (OpenSpec.ofChange elderUpWrong)

/-- 'stadholderlaw19.ElderKnown': WHATEVER THE INPUT: true; the input reads as it did. -/
def elderKnownSpec : ChangeSpec := { name := "elderKnown", fn := fun _ => fun
  | [] => { results := [.lit (.bool true)], args := [] }
  | _ => none }
def elderKnownRow : OpenClaim := { program := "ytlandojofjkeaaa", sum := "d73c49cae52e04292a560fdda534ce2147e0faabd5efd5dc144c285f63be9723", func := "stadholder/stadholderlaw19.ElderKnown", spec := "elderKnown", unfollowed := true, recurses := true, apart := false }
def ElderKnownSaid : Prop := elderKnownRow.holds Try.pinned (OpenSpec.ofChange elderKnownSpec)

/-- ITS FALSE NEIGHBOUR: 'it returns false'. Refute it at one input. -/
def elderKnownWrong : ChangeSpec := { name := "elderKnown", fn := fun _ => fun
  | [] => { results := [.lit (.bool false)], args := [] }
  | _ => none }
def ElderKnownWrongFalsely : Prop := elderKnownRow.holds Try.pinned (OpenSpec.ofChange elderKnownWrong)

/- THE SECOND FORM. 'bulk': how many values and letters a reading holds, each counted each time it is reached (what is shared counts as often as it is met; a slice's spare places count too). A statement '..UptoSaid' is the law's where the arguments, and the package variables that the reading takes, are together of bulk at most 1048576: NARROWER than '..Said'. Prove '..Said' where nothing that the law and all that it calls make is longer than what came in: it says more and counts as full. Else prove '..UptoSaid'. A law counts once. -/
mutual
def uptoBulk {H : Type} : DataW H → Nat
  | .lit (.string bytes) => bytes.length + 1
  | .lit _ => 1
  | .nil => 1
  | .ptr d => uptoBulk d + 1
  | .slice elems spare => uptoBulkAll elems + uptoBulkAll spare + 1
  | .agg parts => uptoBulkAll parts + 1
  | .iface _ d => uptoBulk d + 1
  | .map entries => uptoBulkEntries entries + 1
  | .held _ => 1
def uptoBulkAll {H : Type} : List (DataW H) → Nat
  | [] => 0
  | d :: r => uptoBulk d + uptoBulkAll r
def uptoBulkEntries {H : Type} : List (Lit × DataW H) → Nat
  | [] => 0
  | x :: r => uptoBulkEntry x + uptoBulkEntries r
def uptoBulkEntry {H : Type} : Lit × DataW H → Nat
  | (.string bytes, d) => bytes.length + uptoBulk d + 1
  | (_, d) => uptoBulk d + 1
 end
def uptoSmall : (H : Type) → List (DataW H) → Bool := fun _ ds => decide (uptoBulkAll ds ≤ 1048576)
def OpenSpec.upto (s : _root_.Go.ChangeSpec) : _root_.Go.OpenSpec := { _root_.Go.OpenSpec.ofChange s with cond := some uptoSmall }

/-- 'stadholderlaw19.ElderTags', WHERE WHAT IT READS IS OF BULK AT MOST 1048576: true; the input reads as it did. -/
def elderTagsUptoRow : OpenClaim := { program := "ytlandojofjkeaaa", sum := "d73c49cae52e04292a560fdda534ce2147e0faabd5efd5dc144c285f63be9723", func := "stadholder/stadholderlaw19.ElderTags", spec := "elderTags", unfollowed := true, recurses := true, apart := false, narrowed := true }
def ElderTagsUptoSaid : Prop := elderTagsUptoRow.holds Try.pinned (OpenSpec.upto elderTagsSpec)

/-- 'stadholderlaw19.ElderSays', WHERE WHAT IT READS IS OF BULK AT MOST 1048576: true; the input reads as it did. -/
def elderSaysUptoRow : OpenClaim := { program := "ytlandojofjkeaaa", sum := "d73c49cae52e04292a560fdda534ce2147e0faabd5efd5dc144c285f63be9723", func := "stadholder/stadholderlaw19.ElderSays", spec := "elderSays", unfollowed := true, recurses := true, apart := false, narrowed := true }
def ElderSaysUptoSaid : Prop := elderSaysUptoRow.holds Try.pinned (OpenSpec.upto elderSaysSpec)

/-- 'stadholderlaw19.ElderUp', WHERE WHAT IT READS IS OF BULK AT MOST 1048576: true; the input reads as it did. -/
def elderUpUptoRow : OpenClaim := { program := "ytlandojofjkeaaa", sum := "d73c49cae52e04292a560fdda534ce2147e0faabd5efd5dc144c285f63be9723", func := "stadholder/stadholderlaw19.ElderUp", spec := "elderUp", unfollowed := true, recurses := true, apart := false, narrowed := true }
def ElderUpUptoSaid : Prop := elderUpUptoRow.holds Try.pinned (OpenSpec.upto elderUpSpec)

/-- 'stadholderlaw19.ElderKnown', WHERE WHAT IT READS IS OF BULK AT MOST 1048576: true; the input reads as it did. -/
def elderKnownUptoRow : OpenClaim := { program := "ytlandojofjkeaaa", sum := "d73c49cae52e04292a560fdda534ce2147e0faabd5efd5dc144c285f63be9723", func := "stadholder/stadholderlaw19.ElderKnown", spec := "elderKnown", unfollowed := true, recurses := true, apart := false, narrowed := true }
def ElderKnownUptoSaid : Prop := elderKnownUptoRow.holds Try.pinned (OpenSpec.upto elderKnownSpec)

end Rows
end Go.Proofs.Ytlandojofjkeaaa
