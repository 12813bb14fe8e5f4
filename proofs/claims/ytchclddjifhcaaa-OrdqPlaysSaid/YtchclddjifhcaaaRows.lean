/-
  No cell of these rows narrows 'for every input' (looked for: loops, veiled, ifaces, maps, wideKeys, modest, calm, conditions, laid).
  DERIVED. THE GIVEN ROWS OF THIS SEAT. 5 by the template 'for every input the law returns true; each argument reads behind the call as it read before'; 0 by the template 'total and deterministic' (their statements: YtchclddjifhcaaaTotals.lean).
  GIVEN WITH THE SEED: the statements are not yours to turn. If you find one false, say at which input.
  Laid BY PROGRAM, IN A SANDBOX (cutbox-rows.mjs): the forced cells as the released guide's own fill.sh prints them over the translation 686a3750947b10aa… (all of the seat's roots in one cut). By AI agents, Wed Nov 11 2026. No macro, syntax, notation, axiom, sorry.
-/
import Derived.Test.YtchclddjifhcaaaChecked
import GoSem.Claim
import GoSem.ClaimJoined
import GoSem.ClaimMapViews
import Derived.JoinedTies
import Derived.KernelRfl
namespace Go.Proofs.Ytchclddjifhcaaa
/- THE CELL 'sum', in the pinned program and in every row, IS THE sha256 OF THE DUMP (.gsa) THAT YtchclddjifhcaaaProg.lean LOADS. Nothing in Lean hashes anything: it is a label: what it is worth is what the hold of that sum in a sandbox is worth. -/
noncomputable def Try.pinned : Pinned := { name := "ytchclddjifhcaaa", sum := "686a3750947b10aa78ef6db13d1706860dbef3ae72418100ff4b852081c18934", checked := Try.checked }
namespace Rows
def none {H : Type} : Left H := { results := [], args := [] }

/-- 'stadholderlaw4.OrdqSorts': WHATEVER THE INPUT: true; the input reads as it did. -/
def ordqSortsSpec : ChangeSpec := { name := "ordqSorts", fn := fun _ => fun
  | [d] => { results := [.lit (.bool true)], args := [d] }
  | _ => none }
def ordqSortsRow : OpenClaim := { program := "ytchclddjifhcaaa", sum := "686a3750947b10aa78ef6db13d1706860dbef3ae72418100ff4b852081c18934", func := "stadholder/stadholderlaw4.OrdqSorts", spec := "ordqSorts", unfollowed := true, recurses := true, apart := false }
def OrdqSortsSaid : Prop := ordqSortsRow.holds Try.pinned (OpenSpec.ofChange ordqSortsSpec)

/-- ITS FALSE NEIGHBOUR: 'it returns false'. Refute it at one input. -/
def ordqSortsWrong : ChangeSpec := { name := "ordqSorts", fn := fun _ => fun
  | [d] => { results := [.lit (.bool false)], args := [d] }
  | _ => none }
def OrdqSortsWrongFalsely : Prop := ordqSortsRow.holds Try.pinned (OpenSpec.ofChange ordqSortsWrong)

/-- 'stadholderlaw4.OrdqOver': WHATEVER THE INPUT: true; the input reads as it did. -/
def ordqOverSpec : ChangeSpec := { name := "ordqOver", fn := fun _ => fun
  | [d1, d2] => { results := [.lit (.bool true)], args := [d1, d2] }
  | _ => none }
def ordqOverRow : OpenClaim := { program := "ytchclddjifhcaaa", sum := "686a3750947b10aa78ef6db13d1706860dbef3ae72418100ff4b852081c18934", func := "stadholder/stadholderlaw4.OrdqOver", spec := "ordqOver", unfollowed := true, recurses := true, apart := false }
def OrdqOverSaid : Prop := ordqOverRow.holds Try.pinned (OpenSpec.ofChange ordqOverSpec)

/-- ITS FALSE NEIGHBOUR: 'it returns false'. Refute it at one input. -/
def ordqOverWrong : ChangeSpec := { name := "ordqOver", fn := fun _ => fun
  | [d1, d2] => { results := [.lit (.bool false)], args := [d1, d2] }
  | _ => none }
def OrdqOverWrongFalsely : Prop := ordqOverRow.holds Try.pinned (OpenSpec.ofChange ordqOverWrong)

/-- 'stadholderlaw4.OrdqSets': WHATEVER THE INPUT: true; the input reads as it did. -/
def ordqSetsSpec : ChangeSpec := { name := "ordqSets", fn := fun _ => fun
  | [d1, d2, d3] => { results := [.lit (.bool true)], args := [d1, d2, d3] }
  | _ => none }
def ordqSetsRow : OpenClaim := { program := "ytchclddjifhcaaa", sum := "686a3750947b10aa78ef6db13d1706860dbef3ae72418100ff4b852081c18934", func := "stadholder/stadholderlaw4.OrdqSets", spec := "ordqSets", unfollowed := true, recurses := true, apart := false }
def OrdqSetsSaid : Prop := ordqSetsRow.holds Try.pinned (OpenSpec.ofChange ordqSetsSpec)

/-- ITS FALSE NEIGHBOUR: 'it returns false'. Refute it at one input. -/
def ordqSetsWrong : ChangeSpec := { name := "ordqSets", fn := fun _ => fun
  | [d1, d2, d3] => { results := [.lit (.bool false)], args := [d1, d2, d3] }
  | _ => none }
def OrdqSetsWrongFalsely : Prop := ordqSetsRow.holds Try.pinned (OpenSpec.ofChange ordqSetsWrong)

/-- 'stadholderlaw4.OrdqKnown': WHATEVER THE INPUT: true; the input reads as it did. -/
def ordqKnownSpec : ChangeSpec := { name := "ordqKnown", fn := fun _ => fun
  | [] => { results := [.lit (.bool true)], args := [] }
  | _ => none }
def ordqKnownRow : OpenClaim := { program := "ytchclddjifhcaaa", sum := "686a3750947b10aa78ef6db13d1706860dbef3ae72418100ff4b852081c18934", func := "stadholder/stadholderlaw4.OrdqKnown", spec := "ordqKnown", unfollowed := true, recurses := true, apart := false }
def OrdqKnownSaid : Prop := ordqKnownRow.holds Try.pinned (OpenSpec.ofChange ordqKnownSpec)

/-- ITS FALSE NEIGHBOUR: 'it returns false'. Refute it at one input. -/
def ordqKnownWrong : ChangeSpec := { name := "ordqKnown", fn := fun _ => fun
  | [] => { results := [.lit (.bool false)], args := [] }
  | _ => none }
def OrdqKnownWrongFalsely : Prop := ordqKnownRow.holds Try.pinned (OpenSpec.ofChange ordqKnownWrong)

/-- 'stadholderlaw4.OrdqPlays': WHATEVER THE INPUT: true; the input reads as it did. -/
def ordqPlaysSpec : ChangeSpec := { name := "ordqPlays", fn := fun _ => fun
  | [d1, d2] => { results := [.lit (.bool true)], args := [d1, d2] }
  | _ => none }
def ordqPlaysRow : OpenClaim := { program := "ytchclddjifhcaaa", sum := "686a3750947b10aa78ef6db13d1706860dbef3ae72418100ff4b852081c18934", func := "stadholder/stadholderlaw4.OrdqPlays", spec := "ordqPlays", unfollowed := true, recurses := true, apart := false }
def OrdqPlaysSaid : Prop := ordqPlaysRow.holds Try.pinned (OpenSpec.ofChange ordqPlaysSpec)

/-- ITS FALSE NEIGHBOUR: 'it returns false'. Refute it at one input. -/
def ordqPlaysWrong : ChangeSpec := { name := "ordqPlays", fn := fun _ => fun
  | [d1, d2] => { results := [.lit (.bool false)], args := [d1, d2] }
  | _ => none }
def OrdqPlaysWrongFalsely : Prop := ordqPlaysRow.holds Try.pinned (OpenSpec.ofChange ordqPlaysWrong)

/- THE SECOND FORM. 'bulk': how many values and letters a reading holds, each counted each time it is reached (what is shared counts as often as it is met; a slice's spare places count too). A statement '..UptoSaid' is the law's where the arguments, and the package variables that the reading takes, are together of bulk at most 1048576: NARROWER than '..Said'. Prove '..Said' where nothing that the law and all that it calls make is longer than what came in: it says more and counts as full. Else prove '..UptoSaid'. A law counts once. -/
mutual
def uptoBulk {H : Type} : DataW H → Nat
  | .lit (.string bytes) => bytes.length + 1
  | .lit _ => 1
  | .nil => 1
  | .ptr d => uptoBulk d + 1
  | .slice elems spare => uptoBulkAll elems + uptoBulkAll spare + 1
  | .agg parts => uptoBulkAll parts + 1
  | .iface _ d => uptoBulk d + 1
  | .map entries => uptoBulkEntries entries + 1
  | .held _ => 1
def uptoBulkAll {H : Type} : List (DataW H) → Nat
  | [] => 0
  | d :: r => uptoBulk d + uptoBulkAll r
def uptoBulkEntries {H : Type} : List (Lit × DataW H) → Nat
  | [] => 0
  | x :: r => uptoBulkEntry x + uptoBulkEntries r
def uptoBulkEntry {H : Type} : Lit × DataW H → Nat
  | (.string bytes, d) => bytes.length + uptoBulk d + 1
  | (_, d) => uptoBulk d + 1
 end
def uptoSmall : (H : Type) → List (DataW H) → Bool := fun _ ds => decide (uptoBulkAll ds ≤ 1048576)
def OpenSpec.upto (s : _root_.Go.ChangeSpec) : _root_.Go.OpenSpec := { _root_.Go.OpenSpec.ofChange s with cond := some uptoSmall }

/-- 'stadholderlaw4.OrdqSorts', WHERE WHAT IT READS IS OF BULK AT MOST 1048576: true; the input reads as it did. -/
def ordqSortsUptoRow : OpenClaim := { program := "ytchclddjifhcaaa", sum := "686a3750947b10aa78ef6db13d1706860dbef3ae72418100ff4b852081c18934", func := "stadholder/stadholderlaw4.OrdqSorts", spec := "ordqSorts", unfollowed := true, recurses := true, apart := false, narrowed := true }
def OrdqSortsUptoSaid : Prop := ordqSortsUptoRow.holds Try.pinned (OpenSpec.upto ordqSortsSpec)

/-- 'stadholderlaw4.OrdqOver', WHERE WHAT IT READS IS OF BULK AT MOST 1048576: true; the input reads as it did. -/
def ordqOverUptoRow : OpenClaim := { program := "ytchclddjifhcaaa", sum := "686a3750947b10aa78ef6db13d1706860dbef3ae72418100ff4b852081c18934", func := "stadholder/stadholderlaw4.OrdqOver", spec := "ordqOver", unfollowed := true, recurses := true, apart := false, narrowed := true }
def OrdqOverUptoSaid : Prop := ordqOverUptoRow.holds Try.pinned (OpenSpec.upto ordqOverSpec)

/-- 'stadholderlaw4.OrdqSets', WHERE WHAT IT READS IS OF BULK AT MOST 1048576: true; the input reads as it did. -/
def ordqSetsUptoRow : OpenClaim := { program := "ytchclddjifhcaaa", sum := "686a3750947b10aa78ef6db13d1706860dbef3ae72418100ff4b852081c18934", func := "stadholder/stadholderlaw4.OrdqSets", spec := "ordqSets", unfollowed := true, recurses := true, apart := false, narrowed := true }
def OrdqSetsUptoSaid : Prop := ordqSetsUptoRow.holds Try.pinned (OpenSpec.upto ordqSetsSpec)

/-- 'stadholderlaw4.OrdqKnown', WHERE WHAT IT READS IS OF BULK AT MOST 1048576: true; the input reads as it did. -/
def ordqKnownUptoRow : OpenClaim := { program := "ytchclddjifhcaaa", sum := "686a3750947b10aa78ef6db13d1706860dbef3ae72418100ff4b852081c18934", func := "stadholder/stadholderlaw4.OrdqKnown", spec := "ordqKnown", unfollowed := true, recurses := true, apart := false, narrowed := true }
def OrdqKnownUptoSaid : Prop := ordqKnownUptoRow.holds Try.pinned (OpenSpec.upto ordqKnownSpec)

/-- 'stadholderlaw4.OrdqPlays', WHERE WHAT IT READS IS OF BULK AT MOST 1048576: true; the input reads as it did. -/
def ordqPlaysUptoRow : OpenClaim := { program := "ytchclddjifhcaaa", sum := "686a3750947b10aa78ef6db13d1706860dbef3ae72418100ff4b852081c18934", func := "stadholder/stadholderlaw4.OrdqPlays", spec := "ordqPlays", unfollowed := true, recurses := true, apart := false, narrowed := true }
def OrdqPlaysUptoSaid : Prop := ordqPlaysUptoRow.holds Try.pinned (OpenSpec.upto ordqPlaysSpec)

end Rows
end Go.Proofs.Ytchclddjifhcaaa
