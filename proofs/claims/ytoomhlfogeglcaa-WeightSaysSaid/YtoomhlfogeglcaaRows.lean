/-
  No cell of these rows narrows 'for every input' (looked for: loops, veiled, ifaces, maps, wideKeys, modest, calm, conditions, laid).
  DERIVED. THE GIVEN ROWS OF THIS SEAT. 6 by the template 'for every input the law returns true; each argument reads behind the call as it read before'; 0 by the template 'total and deterministic' (their statements: YtoomhlfogeglcaaTotals.lean).
  GIVEN WITH THE SEED: the statements are not yours to turn. If you find one false, say at which input.
  Laid BY PROGRAM, IN A SANDBOX (cutbox-rows.mjs): the forced cells as the released guide's own fill.sh prints them over the translation 36c8653a35562b6b… (all of the seat's roots in one cut). By AI agents, Wed Nov 11 2026. No macro, syntax, notation, axiom, sorry.
-/
import Derived.Test.YtoomhlfogeglcaaChecked
import GoSem.Claim
import GoSem.ClaimJoined
import GoSem.ClaimMapViews
import Derived.JoinedTies
import Derived.KernelRfl
namespace Go.Proofs.Ytoomhlfogeglcaa
/- THE CELL 'sum', in the pinned program and in every row, IS THE sha256 OF THE DUMP (.gsa) THAT YtoomhlfogeglcaaProg.lean LOADS. Nothing in Lean hashes anything: it is a label: what it is worth is what the hold of that sum in a sandbox is worth. -/
noncomputable def Try.pinned : Pinned := { name := "ytoomhlfogeglcaa", sum := "36c8653a35562b6bcb34c04f9863e06ded038346b99eecd7ff1fb3cd71e96d8a", checked := Try.checked }
namespace Rows
def none {H : Type} : Left H := { results := [], args := [] }

/-- 'stadholderlaw2.WeightKnown': WHATEVER THE INPUT: true; the input reads as it did. -/
def weightKnownSpec : ChangeSpec := { name := "weightKnown", fn := fun _ => fun
  | [] => { results := [.lit (.bool true)], args := [] }
  | _ => none }
def weightKnownRow : OpenClaim := { program := "ytoomhlfogeglcaa", sum := "36c8653a35562b6bcb34c04f9863e06ded038346b99eecd7ff1fb3cd71e96d8a", func := "stadholder/stadholderlaw2.WeightKnown", spec := "weightKnown", unfollowed := true, recurses := true, named := ["math/bits.divideError", "math/bits.overflowError"], apart := false }
def WeightKnownSaid : Prop := weightKnownRow.holds Try.pinned (OpenSpec.ofChange weightKnownSpec)

/-- ITS FALSE NEIGHBOUR: 'it returns false'. Refute it at one input. -/
def weightKnownWrong : ChangeSpec := { name := "weightKnown", fn := fun _ => fun
  | [] => { results := [.lit (.bool false)], args := [] }
  | _ => none }
def WeightKnownWrongFalsely : Prop := weightKnownRow.holds Try.pinned (OpenSpec.ofChange weightKnownWrong)

/-- 'stadholderlaw2.WeightSays': WHATEVER THE INPUT: true; the input reads as it did. -/
def weightSaysSpec : ChangeSpec := { name := "weightSays", fn := fun _ => fun
  | [d1, d2, d3, d4, d5] => { results := [.lit (.bool true)], args := [d1, d2, d3, d4, d5] }
  | _ => none }
def weightSaysRow : OpenClaim := { program := "ytoomhlfogeglcaa", sum := "36c8653a35562b6bcb34c04f9863e06ded038346b99eecd7ff1fb3cd71e96d8a", func := "stadholder/stadholderlaw2.WeightSays", spec := "weightSays", unfollowed := true, recurses := true, named := ["math/bits.divideError", "math/bits.overflowError"], apart := false }
def WeightSaysSaid : Prop := weightSaysRow.holds Try.pinned (OpenSpec.ofChange weightSaysSpec)

/-- ITS FALSE NEIGHBOUR: 'it returns false'. Refute it at one input. -/
def weightSaysWrong : ChangeSpec := { name := "weightSays", fn := fun _ => fun
  | [d1, d2, d3, d4, d5] => { results := [.lit (.bool false)], args := [d1, d2, d3, d4, d5] }
  | _ => none }
def WeightSaysWrongFalsely : Prop := weightSaysRow.holds Try.pinned (OpenSpec.ofChange weightSaysWrong)

/-- 'stadholderlaw2.WeightParts': WHATEVER THE INPUT: true; the input reads as it did. -/
def weightPartsSpec : ChangeSpec := { name := "weightParts", fn := fun _ => fun
  | [d1, d2] => { results := [.lit (.bool true)], args := [d1, d2] }
  | _ => none }
def weightPartsRow : OpenClaim := { program := "ytoomhlfogeglcaa", sum := "36c8653a35562b6bcb34c04f9863e06ded038346b99eecd7ff1fb3cd71e96d8a", func := "stadholder/stadholderlaw2.WeightParts", spec := "weightParts", unfollowed := true, recurses := true, named := ["math/bits.divideError", "math/bits.overflowError"], apart := false }
def WeightPartsSaid : Prop := weightPartsRow.holds Try.pinned (OpenSpec.ofChange weightPartsSpec)

/-- ITS FALSE NEIGHBOUR: 'it returns false'. Refute it at one input. -/
def weightPartsWrong : ChangeSpec := { name := "weightParts", fn := fun _ => fun
  | [d1, d2] => { results := [.lit (.bool false)], args := [d1, d2] }
  | _ => none }
def WeightPartsWrongFalsely : Prop := weightPartsRow.holds Try.pinned (OpenSpec.ofChange weightPartsWrong)

/-- 'stadholderlaw2.WeightMore': WHATEVER THE INPUT: true; the input reads as it did. -/
def weightMoreSpec : ChangeSpec := { name := "weightMore", fn := fun _ => fun
  | [d1, d2, d3, d4, d5] => { results := [.lit (.bool true)], args := [d1, d2, d3, d4, d5] }
  | _ => none }
def weightMoreRow : OpenClaim := { program := "ytoomhlfogeglcaa", sum := "36c8653a35562b6bcb34c04f9863e06ded038346b99eecd7ff1fb3cd71e96d8a", func := "stadholder/stadholderlaw2.WeightMore", spec := "weightMore", unfollowed := true, recurses := true, named := ["math/bits.divideError", "math/bits.overflowError"], apart := false }
def WeightMoreSaid : Prop := weightMoreRow.holds Try.pinned (OpenSpec.ofChange weightMoreSpec)

/-- ITS FALSE NEIGHBOUR: 'it returns false'. Refute it at one input. -/
def weightMoreWrong : ChangeSpec := { name := "weightMore", fn := fun _ => fun
  | [d1, d2, d3, d4, d5] => { results := [.lit (.bool false)], args := [d1, d2, d3, d4, d5] }
  | _ => none }
def WeightMoreWrongFalsely : Prop := weightMoreRow.holds Try.pinned (OpenSpec.ofChange weightMoreWrong)

/-- 'stadholderlaw2.WeightOffs': WHATEVER THE INPUT: true; the input reads as it did. -/
def weightOffsSpec : ChangeSpec := { name := "weightOffs", fn := fun _ => fun
  | [d1, d2, d3] => { results := [.lit (.bool true)], args := [d1, d2, d3] }
  | _ => none }
def weightOffsRow : OpenClaim := { program := "ytoomhlfogeglcaa", sum := "36c8653a35562b6bcb34c04f9863e06ded038346b99eecd7ff1fb3cd71e96d8a", func := "stadholder/stadholderlaw2.WeightOffs", spec := "weightOffs", unfollowed := true, recurses := true, named := ["math/bits.divideError", "math/bits.overflowError"], apart := false }
def WeightOffsSaid : Prop := weightOffsRow.holds Try.pinned (OpenSpec.ofChange weightOffsSpec)

/-- ITS FALSE NEIGHBOUR: 'it returns false'. Refute it at one input. -/
def weightOffsWrong : ChangeSpec := { name := "weightOffs", fn := fun _ => fun
  | [d1, d2, d3] => { results := [.lit (.bool false)], args := [d1, d2, d3] }
  | _ => none }
def WeightOffsWrongFalsely : Prop := weightOffsRow.holds Try.pinned (OpenSpec.ofChange weightOffsWrong)

/-- 'stadholderlaw2.WeightTotals': WHATEVER THE INPUT: true; the input reads as it did. -/
def weightTotalsSpec : ChangeSpec := { name := "weightTotals", fn := fun _ => fun
  | [d1, d2] => { results := [.lit (.bool true)], args := [d1, d2] }
  | _ => none }
def weightTotalsRow : OpenClaim := { program := "ytoomhlfogeglcaa", sum := "36c8653a35562b6bcb34c04f9863e06ded038346b99eecd7ff1fb3cd71e96d8a", func := "stadholder/stadholderlaw2.WeightTotals", spec := "weightTotals", unfollowed := true, recurses := true, named := ["math/bits.divideError", "math/bits.overflowError"], apart := false }
def WeightTotalsSaid : Prop := weightTotalsRow.holds Try.pinned (OpenSpec.ofChange weightTotalsSpec)

/-- ITS FALSE NEIGHBOUR: 'it returns false'. Refute it at one input. -/
def weightTotalsWrong : ChangeSpec := { name := "weightTotals", fn := fun _ => fun
  | [d1, d2] => { results := [.lit (.bool false)], args := [d1, d2] }
  | _ => none }
def WeightTotalsWrongFalsely : Prop := weightTotalsRow.holds Try.pinned (OpenSpec.ofChange weightTotalsWrong)

/- THE SECOND FORM. 'bulk': how many values and letters a reading holds, each counted each time it is reached (what is shared counts as often as it is met; a slice's spare places count too). A statement '..UptoSaid' is the law's where the arguments, and the package variables that the reading takes, are together of bulk at most 1048576: NARROWER than '..Said'. Prove '..Said' where nothing that the law and all that it calls make is longer than what came in: it says more and counts as full. Else prove '..UptoSaid'. A law counts once. -/
mutual
def uptoBulk {H : Type} : DataW H → Nat
  | .lit (.string bytes) => bytes.length + 1
  | .lit _ => 1
  | .nil => 1
  | .ptr d => uptoBulk d + 1
  | .slice elems spare => uptoBulkAll elems + uptoBulkAll spare + 1
  | .agg parts => uptoBulkAll parts + 1
  | .iface _ d => uptoBulk d + 1
  | .map entries => uptoBulkEntries entries + 1
  | .held _ => 1
def uptoBulkAll {H : Type} : List (DataW H) → Nat
  | [] => 0
  | d :: r => uptoBulk d + uptoBulkAll r
def uptoBulkEntries {H : Type} : List (Lit × DataW H) → Nat
  | [] => 0
  | x :: r => uptoBulkEntry x + uptoBulkEntries r
def uptoBulkEntry {H : Type} : Lit × DataW H → Nat
  | (.string bytes, d) => bytes.length + uptoBulk d + 1
  | (_, d) => uptoBulk d + 1
 end
def uptoSmall : (H : Type) → List (DataW H) → Bool := fun _ ds => decide (uptoBulkAll ds ≤ 1048576)
def OpenSpec.upto (s : _root_.Go.ChangeSpec) : _root_.Go.OpenSpec := { _root_.Go.OpenSpec.ofChange s with cond := some uptoSmall }

/-- 'stadholderlaw2.WeightKnown', WHERE WHAT IT READS IS OF BULK AT MOST 1048576: true; the input reads as it did. -/
def weightKnownUptoRow : OpenClaim := { program := "ytoomhlfogeglcaa", sum := "36c8653a35562b6bcb34c04f9863e06ded038346b99eecd7ff1fb3cd71e96d8a", func := "stadholder/stadholderlaw2.WeightKnown", spec := "weightKnown", unfollowed := true, recurses := true, named := ["math/bits.divideError", "math/bits.overflowError"], apart := false, narrowed := true }
def WeightKnownUptoSaid : Prop := weightKnownUptoRow.holds Try.pinned (OpenSpec.upto weightKnownSpec)

/-- 'stadholderlaw2.WeightSays', WHERE WHAT IT READS IS OF BULK AT MOST 1048576: true; the input reads as it did. -/
def weightSaysUptoRow : OpenClaim := { program := "ytoomhlfogeglcaa", sum := "36c8653a35562b6bcb34c04f9863e06ded038346b99eecd7ff1fb3cd71e96d8a", func := "stadholder/stadholderlaw2.WeightSays", spec := "weightSays", unfollowed := true, recurses := true, named := ["math/bits.divideError", "math/bits.overflowError"], apart := false, narrowed := true }
def WeightSaysUptoSaid : Prop := weightSaysUptoRow.holds Try.pinned (OpenSpec.upto weightSaysSpec)

/-- 'stadholderlaw2.WeightParts', WHERE WHAT IT READS IS OF BULK AT MOST 1048576: true; the input reads as it did. -/
def weightPartsUptoRow : OpenClaim := { program := "ytoomhlfogeglcaa", sum := "36c8653a35562b6bcb34c04f9863e06ded038346b99eecd7ff1fb3cd71e96d8a", func := "stadholder/stadholderlaw2.WeightParts", spec := "weightParts", unfollowed := true, recurses := true, named := ["math/bits.divideError", "math/bits.overflowError"], apart := false, narrowed := true }
def WeightPartsUptoSaid : Prop := weightPartsUptoRow.holds Try.pinned (OpenSpec.upto weightPartsSpec)

/-- 'stadholderlaw2.WeightMore', WHERE WHAT IT READS IS OF BULK AT MOST 1048576: true; the input reads as it did. -/
def weightMoreUptoRow : OpenClaim := { program := "ytoomhlfogeglcaa", sum := "36c8653a35562b6bcb34c04f9863e06ded038346b99eecd7ff1fb3cd71e96d8a", func := "stadholder/stadholderlaw2.WeightMore", spec := "weightMore", unfollowed := true, recurses := true, named := ["math/bits.divideError", "math/bits.overflowError"], apart := false, narrowed := true }
def WeightMoreUptoSaid : Prop := weightMoreUptoRow.holds Try.pinned (OpenSpec.upto weightMoreSpec)

/-- 'stadholderlaw2.WeightOffs', WHERE WHAT IT READS IS OF BULK AT MOST 1048576: true; the input reads as it did. -/
def weightOffsUptoRow : OpenClaim := { program := "ytoomhlfogeglcaa", sum := "36c8653a35562b6bcb34c04f9863e06ded038346b99eecd7ff1fb3cd71e96d8a", func := "stadholder/stadholderlaw2.WeightOffs", spec := "weightOffs", unfollowed := true, recurses := true, named := ["math/bits.divideError", "math/bits.overflowError"], apart := false, narrowed := true }
def WeightOffsUptoSaid : Prop := weightOffsUptoRow.holds Try.pinned (OpenSpec.upto weightOffsSpec)

/-- 'stadholderlaw2.WeightTotals', WHERE WHAT IT READS IS OF BULK AT MOST 1048576: true; the input reads as it did. -/
def weightTotalsUptoRow : OpenClaim := { program := "ytoomhlfogeglcaa", sum := "36c8653a35562b6bcb34c04f9863e06ded038346b99eecd7ff1fb3cd71e96d8a", func := "stadholder/stadholderlaw2.WeightTotals", spec := "weightTotals", unfollowed := true, recurses := true, named := ["math/bits.divideError", "math/bits.overflowError"], apart := false, narrowed := true }
def WeightTotalsUptoSaid : Prop := weightTotalsUptoRow.holds Try.pinned (OpenSpec.upto weightTotalsSpec)

end Rows
end Go.Proofs.Ytoomhlfogeglcaa
