/-
  No cell of these rows narrows 'for every input' (looked for: loops, veiled, ifaces, maps, wideKeys, modest, calm, conditions, laid).
  DERIVED. THE GIVEN ROWS OF THIS SEAT. 4 by the template 'for every input the law returns true; each argument reads behind the call as it read before'; 0 by the template 'total and deterministic' (their statements: YtbbdhpjkibbnkaaTotals.lean).
  GIVEN WITH THE SEED: the statements are not yours to turn. If you find one false, say at which input.
  Laid BY PROGRAM, IN A SANDBOX (cutbox-rows.mjs): the forced cells as the released guide's own fill.sh prints them over the translation 4ee95c357db2404d… (all of the seat's roots in one cut). By AI agents, Wed Nov 11 2026. No macro, syntax, notation, axiom, sorry.
-/
import Derived.Test.YtbbdhpjkibbnkaaChecked
import GoSem.Claim
import GoSem.ClaimJoined
import GoSem.ClaimMapViews
import Derived.JoinedTies
import Derived.KernelRfl
namespace Go.Proofs.Ytbbdhpjkibbnkaa
/- THE CELL 'sum', in the pinned program and in every row, IS THE sha256 OF THE DUMP (.gsa) THAT YtbbdhpjkibbnkaaProg.lean LOADS. Nothing in Lean hashes anything: it is a label: what it is worth is what the hold of that sum in a sandbox is worth. -/
noncomputable def Try.pinned : Pinned := { name := "ytbbdhpjkibbnkaa", sum := "4ee95c357db2404dbf17e8f75f3dbd45938c88aa813659fc3bd67835578e0fa3", checked := Try.checked }
namespace Rows
def none {H : Type} : Left H := { results := [], args := [] }

/-- 'stadholderlaw5.DueqFirst': WHATEVER THE INPUT: true; the input reads as it did. -/
def dueqFirstSpec : ChangeSpec := { name := "dueqFirst", fn := fun _ => fun
  | [d1, d2, d3, d4] => { results := [.lit (.bool true)], args := [d1, d2, d3, d4] }
  | _ => none }
def dueqFirstRow : OpenClaim := { program := "ytbbdhpjkibbnkaa", sum := "4ee95c357db2404dbf17e8f75f3dbd45938c88aa813659fc3bd67835578e0fa3", func := "stadholder/stadholderlaw5.DueqFirst", spec := "dueqFirst", unfollowed := true, recurses := true, apart := false }
def DueqFirstSaid : Prop := dueqFirstRow.holds Try.pinned (OpenSpec.ofChange dueqFirstSpec)

/-- ITS FALSE NEIGHBOUR: 'it returns false'. Refute it at one input. -/
def dueqFirstWrong : ChangeSpec := { name := "dueqFirst", fn := fun _ => fun
  | [d1, d2, d3, d4] => { results := [.lit (.bool false)], args := [d1, d2, d3, d4] }
  | _ => none }
def DueqFirstWrongFalsely : Prop := dueqFirstRow.holds Try.pinned (OpenSpec.ofChange dueqFirstWrong)

/-- 'stadholderlaw5.DueqSets': WHATEVER THE INPUT: true; the input reads as it did. -/
def dueqSetsSpec : ChangeSpec := { name := "dueqSets", fn := fun _ => fun
  | [d1, d2, d3, d4, d5, d6] => { results := [.lit (.bool true)], args := [d1, d2, d3, d4, d5, d6] }
  | _ => none }
def dueqSetsRow : OpenClaim := { program := "ytbbdhpjkibbnkaa", sum := "4ee95c357db2404dbf17e8f75f3dbd45938c88aa813659fc3bd67835578e0fa3", func := "stadholder/stadholderlaw5.DueqSets", spec := "dueqSets", unfollowed := true, recurses := true, apart := false }
def DueqSetsSaid : Prop := dueqSetsRow.holds Try.pinned (OpenSpec.ofChange dueqSetsSpec)

/-- ITS FALSE NEIGHBOUR: 'it returns false'. Refute it at one input. -/
def dueqSetsWrong : ChangeSpec := { name := "dueqSets", fn := fun _ => fun
  | [d1, d2, d3, d4, d5, d6] => { results := [.lit (.bool false)], args := [d1, d2, d3, d4, d5, d6] }
  | _ => none }
def DueqSetsWrongFalsely : Prop := dueqSetsRow.holds Try.pinned (OpenSpec.ofChange dueqSetsWrong)

/-- 'stadholderlaw5.DueqKnown': WHATEVER THE INPUT: true; the input reads as it did. -/
def dueqKnownSpec : ChangeSpec := { name := "dueqKnown", fn := fun _ => fun
  | [] => { results := [.lit (.bool true)], args := [] }
  | _ => none }
def dueqKnownRow : OpenClaim := { program := "ytbbdhpjkibbnkaa", sum := "4ee95c357db2404dbf17e8f75f3dbd45938c88aa813659fc3bd67835578e0fa3", func := "stadholder/stadholderlaw5.DueqKnown", spec := "dueqKnown", unfollowed := true, recurses := true, apart := false }
def DueqKnownSaid : Prop := dueqKnownRow.holds Try.pinned (OpenSpec.ofChange dueqKnownSpec)

/-- ITS FALSE NEIGHBOUR: 'it returns false'. Refute it at one input. -/
def dueqKnownWrong : ChangeSpec := { name := "dueqKnown", fn := fun _ => fun
  | [] => { results := [.lit (.bool false)], args := [] }
  | _ => none }
def DueqKnownWrongFalsely : Prop := dueqKnownRow.holds Try.pinned (OpenSpec.ofChange dueqKnownWrong)

/-- 'stadholderlaw5.DueqPlays': WHATEVER THE INPUT: true; the input reads as it did. -/
def dueqPlaysSpec : ChangeSpec := { name := "dueqPlays", fn := fun _ => fun
  | [d1, d2, d3] => { results := [.lit (.bool true)], args := [d1, d2, d3] }
  | _ => none }
def dueqPlaysRow : OpenClaim := { program := "ytbbdhpjkibbnkaa", sum := "4ee95c357db2404dbf17e8f75f3dbd45938c88aa813659fc3bd67835578e0fa3", func := "stadholder/stadholderlaw5.DueqPlays", spec := "dueqPlays", unfollowed := true, recurses := true, apart := false }
def DueqPlaysSaid : Prop := dueqPlaysRow.holds Try.pinned (OpenSpec.ofChange dueqPlaysSpec)

/-- ITS FALSE NEIGHBOUR: 'it returns false'. Refute it at one input. -/
def dueqPlaysWrong : ChangeSpec := { name := "dueqPlays", fn := fun _ => fun
  | [d1, d2, d3] => { results := [.lit (.bool false)], args := [d1, d2, d3] }
  | _ => none }
def DueqPlaysWrongFalsely : Prop := dueqPlaysRow.holds Try.pinned (OpenSpec.ofChange dueqPlaysWrong)

/- THE SECOND FORM. 'bulk': how many values and letters a reading holds, each counted each time it is reached (what is shared counts as often as it is met; a slice's spare places count too). A statement '..UptoSaid' is the law's where the arguments, and the package variables that the reading takes, are together of bulk at most 1048576: NARROWER than '..Said'. Prove '..Said' where nothing that the law and all that it calls make is longer than what came in: it says more and counts as full. Else prove '..UptoSaid'. A law counts once. -/
mutual
def uptoBulk {H : Type} : DataW H → Nat
  | .lit (.string bytes) => bytes.length + 1
  | .lit _ => 1
  | .nil => 1
  | .ptr d => uptoBulk d + 1
  | .slice elems spare => uptoBulkAll elems + uptoBulkAll spare + 1
  | .agg parts => uptoBulkAll parts + 1
  | .iface _ d => uptoBulk d + 1
  | .map entries => uptoBulkEntries entries + 1
  | .held _ => 1
def uptoBulkAll {H : Type} : List (DataW H) → Nat
  | [] => 0
  | d :: r => uptoBulk d + uptoBulkAll r
def uptoBulkEntries {H : Type} : List (Lit × DataW H) → Nat
  | [] => 0
  | x :: r => uptoBulkEntry x + uptoBulkEntries r
def uptoBulkEntry {H : Type} : Lit × DataW H → Nat
  | (.string bytes, d) => bytes.length + uptoBulk d + 1
  | (_, d) => uptoBulk d + 1
 end
def uptoSmall : (H : Type) → List (DataW H) → Bool := fun _ ds => decide (uptoBulkAll ds ≤ 1048576)
def OpenSpec.upto (s : _root_.Go.ChangeSpec) : _root_.Go.OpenSpec := { _root_.Go.OpenSpec.ofChange s with cond := some uptoSmall }

/-- 'stadholderlaw5.DueqFirst', WHERE WHAT IT READS IS OF BULK AT MOST 1048576: true; the input reads as it did. -/
def dueqFirstUptoRow : OpenClaim := { program := "ytbbdhpjkibbnkaa", sum := "4ee95c357db2404dbf17e8f75f3dbd45938c88aa813659fc3bd67835578e0fa3", func := "stadholder/stadholderlaw5.DueqFirst", spec := "dueqFirst", unfollowed := true, recurses := true, apart := false, narrowed := true }
def DueqFirstUptoSaid : Prop := dueqFirstUptoRow.holds Try.pinned (OpenSpec.upto dueqFirstSpec)

/-- 'stadholderlaw5.DueqSets', WHERE WHAT IT READS IS OF BULK AT MOST 1048576: true; the input reads as it did. -/
def dueqSetsUptoRow : OpenClaim := { program := "ytbbdhpjkibbnkaa", sum := "4ee95c357db2404dbf17e8f75f3dbd45938c88aa813659fc3bd67835578e0fa3", func := "stadholder/stadholderlaw5.DueqSets", spec := "dueqSets", unfollowed := true, recurses := true, apart := false, narrowed := true }
def DueqSetsUptoSaid : Prop := dueqSetsUptoRow.holds Try.pinned (OpenSpec.upto dueqSetsSpec)

/-- 'stadholderlaw5.DueqKnown', WHERE WHAT IT READS IS OF BULK AT MOST 1048576: true; the input reads as it did. -/
def dueqKnownUptoRow : OpenClaim := { program := "ytbbdhpjkibbnkaa", sum := "4ee95c357db2404dbf17e8f75f3dbd45938c88aa813659fc3bd67835578e0fa3", func := "stadholder/stadholderlaw5.DueqKnown", spec := "dueqKnown", unfollowed := true, recurses := true, apart := false, narrowed := true }
def DueqKnownUptoSaid : Prop := dueqKnownUptoRow.holds Try.pinned (OpenSpec.upto dueqKnownSpec)

/-- 'stadholderlaw5.DueqPlays', WHERE WHAT IT READS IS OF BULK AT MOST 1048576: true; the input reads as it did. -/
def dueqPlaysUptoRow : OpenClaim := { program := "ytbbdhpjkibbnkaa", sum := "4ee95c357db2404dbf17e8f75f3dbd45938c88aa813659fc3bd67835578e0fa3", func := "stadholder/stadholderlaw5.DueqPlays", spec := "dueqPlays", unfollowed := true, recurses := true, apart := false, narrowed := true }
def DueqPlaysUptoSaid : Prop := dueqPlaysUptoRow.holds Try.pinned (OpenSpec.upto dueqPlaysSpec)

end Rows
end Go.Proofs.Ytbbdhpjkibbnkaa
