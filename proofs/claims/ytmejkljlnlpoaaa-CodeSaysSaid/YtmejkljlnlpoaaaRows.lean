/-
  No cell of these rows narrows 'for every input' (looked for: loops, veiled, ifaces, maps, wideKeys, modest, calm, conditions, laid).
  DERIVED. THE GIVEN ROWS OF THIS SEAT. 5 by the template 'for every input the law returns true; each argument reads behind the call as it read before'; 0 by the template 'total and deterministic' (their statements: YtmejkljlnlpoaaaTotals.lean).
  GIVEN WITH THE SEED: the statements are not yours to turn. If you find one false, say at which input.
  Laid BY PROGRAM, IN A SANDBOX (cutbox-rows.mjs): the forced cells as the released guide's own fill.sh prints them over the translation 761940d80e30856f… (all of the seat's roots in one cut). By AI agents, Wed Nov 11 2026. No macro, syntax, notation, axiom, sorry.
-/
import Derived.Test.YtmejkljlnlpoaaaChecked
import GoSem.Claim
import GoSem.ClaimJoined
import GoSem.ClaimMapViews
import Derived.JoinedTies
import Derived.KernelRfl
namespace Go.Proofs.Ytmejkljlnlpoaaa
/- THE CELL 'sum', in the pinned program and in every row, IS THE sha256 OF THE DUMP (.gsa) THAT YtmejkljlnlpoaaaProg.lean LOADS. Nothing in Lean hashes anything: it is a label: what it is worth is what the hold of that sum in a sandbox is worth. -/
noncomputable def Try.pinned : Pinned := { name := "ytmejkljlnlpoaaa", sum := "761940d80e30856ffa160d3779ac61340c9a417ee500ec215587602113aa78cb", checked := Try.checked }
namespace Rows
def none {H : Type} : Left H := { results := [], args := [] }

/-- 'stadholderlaw18.CodeSays': WHATEVER THE INPUT: true; the input reads as it did. -/
def codeSaysSpec : ChangeSpec := { name := "codeSays", fn := fun _ => fun
  | [d1, d2, d3] => { results := [.lit (.bool true)], args := [d1, d2, d3] }
  | _ => none }
def codeSaysRow : OpenClaim := { program := "ytmejkljlnlpoaaa", sum := "761940d80e30856ffa160d3779ac61340c9a417ee500ec215587602113aa78cb", func := "stadholder/stadholderlaw18.CodeSays", spec := "codeSays", unfollowed := true, recurses := true, apart := false }
def CodeSaysSaid : Prop := codeSaysRow.holds Try.pinned (OpenSpec.ofChange codeSaysSpec)

/-- ITS FALSE NEIGHBOUR: 'it returns false'. Refute it at one input. -/
def codeSaysWrong : ChangeSpec := { name := "codeSays", fn := fun _ => fun
  | [d1, d2, d3] => { results := [.lit (.bool false)], args := [d1, d2, d3] }
  | _ => none }
def CodeSaysWrongFalsely : Prop := codeSaysRow.holds Try.pinned (OpenSpec.ofChange codeSaysWrong)

/-- 'stadholderlaw18.CodeCut': WHATEVER THE INPUT: true; the input reads as it did. -/
def codeCutSpec : ChangeSpec := { name := "codeCut", fn := fun _ => fun
  | [d1, d2, d3, d4] => { results := [.lit (.bool true)], args := [d1, d2, d3, d4] }
  | _ => none }
def codeCutRow : OpenClaim := { program := "ytmejkljlnlpoaaa", sum := "761940d80e30856ffa160d3779ac61340c9a417ee500ec215587602113aa78cb", func := "stadholder/stadholderlaw18.CodeCut", spec := "codeCut", unfollowed := true, recurses := true, apart := false }
def CodeCutSaid : Prop := codeCutRow.holds Try.pinned (OpenSpec.ofChange codeCutSpec)

/-- ITS FALSE NEIGHBOUR: 'it returns false'. Refute it at one input. -/
def codeCutWrong : ChangeSpec := { name := "codeCut", fn := fun _ => fun
  | [d1, d2, d3, d4] => { results := [.lit (.bool false)], args := [d1, d2, d3, d4] }
  | _ => none }
def CodeCutWrongFalsely : Prop := codeCutRow.holds Try.pinned (OpenSpec.ofChange codeCutWrong)

/-- 'stadholderlaw18.CodeKnown': WHATEVER THE INPUT: true; the input reads as it did. -/
def codeKnownSpec : ChangeSpec := { name := "codeKnown", fn := fun _ => fun
  | [] => { results := [.lit (.bool true)], args := [] }
  | _ => none }
def codeKnownRow : OpenClaim := { program := "ytmejkljlnlpoaaa", sum := "761940d80e30856ffa160d3779ac61340c9a417ee500ec215587602113aa78cb", func := "stadholder/stadholderlaw18.CodeKnown", spec := "codeKnown", unfollowed := true, recurses := true, apart := false }
def CodeKnownSaid : Prop := codeKnownRow.holds Try.pinned (OpenSpec.ofChange codeKnownSpec)

/-- ITS FALSE NEIGHBOUR: 'it returns false'. Refute it at one input. -/
def codeKnownWrong : ChangeSpec := { name := "codeKnown", fn := fun _ => fun
  | [] => { results := [.lit (.bool false)], args := [] }
  | _ => none }
def CodeKnownWrongFalsely : Prop := codeKnownRow.holds Try.pinned (OpenSpec.ofChange codeKnownWrong)

/-- 'stadholderlaw18.CodeBack': WHATEVER THE INPUT: true; the input reads as it did. -/
def codeBackSpec : ChangeSpec := { name := "codeBack", fn := fun _ => fun
  | [d1, d2, d3, d4, d5] => { results := [.lit (.bool true)], args := [d1, d2, d3, d4, d5] }
  | _ => none }
def codeBackRow : OpenClaim := { program := "ytmejkljlnlpoaaa", sum := "761940d80e30856ffa160d3779ac61340c9a417ee500ec215587602113aa78cb", func := "stadholder/stadholderlaw18.CodeBack", spec := "codeBack", unfollowed := true, recurses := true, apart := false }
def CodeBackSaid : Prop := codeBackRow.holds Try.pinned (OpenSpec.ofChange codeBackSpec)

/-- ITS FALSE NEIGHBOUR: 'it returns false'. Refute it at one input. -/
def codeBackWrong : ChangeSpec := { name := "codeBack", fn := fun _ => fun
  | [d1, d2, d3, d4, d5] => { results := [.lit (.bool false)], args := [d1, d2, d3, d4, d5] }
  | _ => none }
def CodeBackWrongFalsely : Prop := codeBackRow.holds Try.pinned (OpenSpec.ofChange codeBackWrong)

/-- 'stadholderlaw18.CodeApart': WHATEVER THE INPUT: true; the input reads as it did. -/
def codeApartSpec : ChangeSpec := { name := "codeApart", fn := fun _ => fun
  | [d1, d2, d3, d4] => { results := [.lit (.bool true)], args := [d1, d2, d3, d4] }
  | _ => none }
def codeApartRow : OpenClaim := { program := "ytmejkljlnlpoaaa", sum := "761940d80e30856ffa160d3779ac61340c9a417ee500ec215587602113aa78cb", func := "stadholder/stadholderlaw18.CodeApart", spec := "codeApart", unfollowed := true, recurses := true, apart := false }
def CodeApartSaid : Prop := codeApartRow.holds Try.pinned (OpenSpec.ofChange codeApartSpec)

/-- ITS FALSE NEIGHBOUR: 'it returns false'. Refute it at one input. -/
def codeApartWrong : ChangeSpec := { name := "codeApart", fn := fun _ => fun
  | [d1, d2, d3, d4] => { results := [.lit (.bool false)], args := [d1, d2, d3, d4] }
  | _ => none }
def CodeApartWrongFalsely : Prop := codeApartRow.holds Try.pinned (OpenSpec.ofChange codeApartWrong)

/- THE SECOND FORM. 'bulk': how many values and letters a reading holds, each counted each time it is reached (what is shared counts as often as it is met; a slice's spare places count too). A statement '..UptoSaid' is the law's where the arguments, and the package variables that the reading takes, are together of bulk at most 1048576: NARROWER than '..Said'. Prove '..Said' where nothing that the law and all that it calls make is longer than what came in: it says more and counts as full. Else prove '..UptoSaid'. A law counts once. -/
mutual
def uptoBulk {H : Type} : DataW H → Nat
  | .lit (.string bytes) => bytes.length + 1
  | .lit _ => 1
  | .nil => 1
  | .ptr d => uptoBulk d + 1
  | .slice elems spare => uptoBulkAll elems + uptoBulkAll spare + 1
  | .agg parts => uptoBulkAll parts + 1
  | .iface _ d => uptoBulk d + 1
  | .map entries => uptoBulkEntries entries + 1
  | .held _ => 1
def uptoBulkAll {H : Type} : List (DataW H) → Nat
  | [] => 0
  | d :: r => uptoBulk d + uptoBulkAll r
def uptoBulkEntries {H : Type} : List (Lit × DataW H) → Nat
  | [] => 0
  | x :: r => uptoBulkEntry x + uptoBulkEntries r
def uptoBulkEntry {H : Type} : Lit × DataW H → Nat
  | (.string bytes, d) => bytes.length + uptoBulk d + 1
  | (_, d) => uptoBulk d + 1
 end
def uptoSmall : (H : Type) → List (DataW H) → Bool := fun _ ds => decide (uptoBulkAll ds ≤ 1048576)
def OpenSpec.upto (s : _root_.Go.ChangeSpec) : _root_.Go.OpenSpec := { _root_.Go.OpenSpec.ofChange s with cond := some uptoSmall }

/-- 'stadholderlaw18.CodeSays', WHERE WHAT IT READS IS OF BULK AT MOST 1048576: true; the input reads as it did. -/
def codeSaysUptoRow : OpenClaim := { program := "ytmejkljlnlpoaaa", sum := "761940d80e30856ffa160d3779ac61340c9a417ee500ec215587602113aa78cb", func := "stadholder/stadholderlaw18.CodeSays", spec := "codeSays", unfollowed := true, recurses := true, apart := false, narrowed := true }
def CodeSaysUptoSaid : Prop := codeSaysUptoRow.holds Try.pinned (OpenSpec.upto codeSaysSpec)

/-- 'stadholderlaw18.CodeCut', WHERE WHAT IT READS IS OF BULK AT MOST 1048576: true; the input reads as it did. -/
def codeCutUptoRow : OpenClaim := { program := "ytmejkljlnlpoaaa", sum := "761940d80e30856ffa160d3779ac61340c9a417ee500ec215587602113aa78cb", func := "stadholder/stadholderlaw18.CodeCut", spec := "codeCut", unfollowed := true, recurses := true, apart := false, narrowed := true }
def CodeCutUptoSaid : Prop := codeCutUptoRow.holds Try.pinned (OpenSpec.upto codeCutSpec)

/-- 'stadholderlaw18.CodeKnown', WHERE WHAT IT READS IS OF BULK AT MOST 1048576: true; the input reads as it did. -/
def codeKnownUptoRow : OpenClaim := { program := "ytmejkljlnlpoaaa", sum := "761940d80e30856ffa160d3779ac61340c9a417ee500ec215587602113aa78cb", func := "stadholder/stadholderlaw18.CodeKnown", spec := "codeKnown", unfollowed := true, recurses := true, apart := false, narrowed := true }
def CodeKnownUptoSaid : Prop := codeKnownUptoRow.holds Try.pinned (OpenSpec.upto codeKnownSpec)

/-- 'stadholderlaw18.CodeBack', WHERE WHAT IT READS IS OF BULK AT MOST 1048576: true; the input reads as it did. -/
def codeBackUptoRow : OpenClaim := { program := "ytmejkljlnlpoaaa", sum := "761940d80e30856ffa160d3779ac61340c9a417ee500ec215587602113aa78cb", func := "stadholder/stadholderlaw18.CodeBack", spec := "codeBack", unfollowed := true, recurses := true, apart := false, narrowed := true }
def CodeBackUptoSaid : Prop := codeBackUptoRow.holds Try.pinned (OpenSpec.upto codeBackSpec)

/-- 'stadholderlaw18.CodeApart', WHERE WHAT IT READS IS OF BULK AT MOST 1048576: true; the input reads as it did. -/
def codeApartUptoRow : OpenClaim := { program := "ytmejkljlnlpoaaa", sum := "761940d80e30856ffa160d3779ac61340c9a417ee500ec215587602113aa78cb", func := "stadholder/stadholderlaw18.CodeApart", spec := "codeApart", unfollowed := true, recurses := true, apart := false, narrowed := true }
def CodeApartUptoSaid : Prop := codeApartUptoRow.holds Try.pinned (OpenSpec.upto codeApartSpec)

end Rows
end Go.Proofs.Ytmejkljlnlpoaaa
