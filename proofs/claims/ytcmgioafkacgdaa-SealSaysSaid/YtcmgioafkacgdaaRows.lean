/-
  No cell of these rows narrows 'for every input' (looked for: loops, veiled, ifaces, maps, wideKeys, modest, calm, conditions, laid).
  DERIVED. THE GIVEN ROWS OF THIS SEAT. 3 by the template 'for every input the law returns true; each argument reads behind the call as it read before'; 0 by the template 'total and deterministic' (their statements: YtcmgioafkacgdaaTotals.lean).
  GIVEN WITH THE SEED: the statements are not yours to turn. If you find one false, say at which input.
  Laid BY PROGRAM, IN A SANDBOX (cutbox-rows.mjs): the forced cells as the released guide's own fill.sh prints them over the translation f5472196356eae8c… (all of the seat's roots in one cut). By AI agents, Wed Nov 11 2026. No macro, syntax, notation, axiom, sorry.
-/
import Derived.Test.YtcmgioafkacgdaaChecked
import GoSem.Claim
import GoSem.ClaimJoined
import GoSem.ClaimMapViews
import Derived.JoinedTies
import Derived.KernelRfl
namespace Go.Proofs.Ytcmgioafkacgdaa
/- THE CELL 'sum', in the pinned program and in every row, IS THE sha256 OF THE DUMP (.gsa) THAT YtcmgioafkacgdaaProg.lean LOADS. Nothing in Lean hashes anything: it is a label: what it is worth is what the hold of that sum in a sandbox is worth. -/
noncomputable def Try.pinned : Pinned := { name := "ytcmgioafkacgdaa", sum := "f5472196356eae8c91d284196626b08f1c93f3afebc260083222e826504b5e09", checked := Try.checked }
namespace Rows
def none {H : Type} : Left H := { results := [], args := [] }

/-- 'stadholderlaw17.SealKnown': WHATEVER THE INPUT: true; the input reads as it did. -/
def sealKnownSpec : ChangeSpec := { name := "sealKnown", fn := fun _ => fun
  | [] => { results := [.lit (.bool true)], args := [] }
  | _ => none }
def sealKnownRow : OpenClaim := { program := "ytcmgioafkacgdaa", sum := "f5472196356eae8c91d284196626b08f1c93f3afebc260083222e826504b5e09", func := "stadholder/stadholderlaw17.SealKnown", spec := "sealKnown", apart := false }
def SealKnownSaid : Prop := sealKnownRow.holds Try.pinned (OpenSpec.ofChange sealKnownSpec)

/-- ITS FALSE NEIGHBOUR: 'it returns false'. Refute it at one input. -/
def sealKnownWrong : ChangeSpec := { name := "sealKnown", fn := fun _ => fun
  | [] => { results := [.lit (.bool false)], args := [] }
  | _ => none }
def SealKnownWrongFalsely : Prop := sealKnownRow.holds Try.pinned (OpenSpec.ofChange sealKnownWrong)

/-- 'stadholderlaw17.SealSays': WHATEVER THE INPUT: true; the input reads as it did. -/
def sealSaysSpec : ChangeSpec := { name := "sealSays", fn := fun _ => fun
  | [d] => { results := [.lit (.bool true)], args := [d] }
  | _ => none }
def sealSaysRow : OpenClaim := { program := "ytcmgioafkacgdaa", sum := "f5472196356eae8c91d284196626b08f1c93f3afebc260083222e826504b5e09", func := "stadholder/stadholderlaw17.SealSays", spec := "sealSays", apart := false }
def SealSaysSaid : Prop := sealSaysRow.holds Try.pinned (OpenSpec.ofChange sealSaysSpec)

/-- ITS FALSE NEIGHBOUR: 'it returns false'. Refute it at one input. -/
def sealSaysWrong : ChangeSpec := { name := "sealSays", fn := fun _ => fun
  | [d] => { results := [.lit (.bool false)], args := [d] }
  | _ => none }
def SealSaysWrongFalsely : Prop := sealSaysRow.holds Try.pinned (OpenSpec.ofChange sealSaysWrong)

/-- 'stadholderlaw17.SealOnce': WHATEVER THE INPUT: true; the input reads as it did. -/
def sealOnceSpec : ChangeSpec := { name := "sealOnce", fn := fun _ => fun
  | [d] => { results := [.lit (.bool true)], args := [d] }
  | _ => none }
def sealOnceRow : OpenClaim := { program := "ytcmgioafkacgdaa", sum := "f5472196356eae8c91d284196626b08f1c93f3afebc260083222e826504b5e09", func := "stadholder/stadholderlaw17.SealOnce", spec := "sealOnce", apart := false }
def SealOnceSaid : Prop := sealOnceRow.holds Try.pinned (OpenSpec.ofChange sealOnceSpec)

/-- ITS FALSE NEIGHBOUR: 'it returns false'. Refute it at one input. -/
def sealOnceWrong : ChangeSpec := { name := "sealOnce", fn := fun _ => fun
  | [d] => { results := [.lit (.bool false)], args := [d] }
  | _ => none }
def SealOnceWrongFalsely : Prop := sealOnceRow.holds Try.pinned (OpenSpec.ofChange sealOnceWrong)

/- THE SECOND FORM. 'bulk': how many values and letters a reading holds, each counted each time it is reached (what is shared counts as often as it is met; a slice's spare places count too). A statement '..UptoSaid' is the law's where the arguments, and the package variables that the reading takes, are together of bulk at most 1048576: NARROWER than '..Said'. Prove '..Said' where nothing that the law and all that it calls make is longer than what came in: it says more and counts as full. Else prove '..UptoSaid'. A law counts once. -/
mutual
def uptoBulk {H : Type} : DataW H → Nat
  | .lit (.string bytes) => bytes.length + 1
  | .lit _ => 1
  | .nil => 1
  | .ptr d => uptoBulk d + 1
  | .slice elems spare => uptoBulkAll elems + uptoBulkAll spare + 1
  | .agg parts => uptoBulkAll parts + 1
  | .iface _ d => uptoBulk d + 1
  | .map entries => uptoBulkEntries entries + 1
  | .held _ => 1
def uptoBulkAll {H : Type} : List (DataW H) → Nat
  | [] => 0
  | d :: r => uptoBulk d + uptoBulkAll r
def uptoBulkEntries {H : Type} : List (Lit × DataW H) → Nat
  | [] => 0
  | x :: r => uptoBulkEntry x + uptoBulkEntries r
def uptoBulkEntry {H : Type} : Lit × DataW H → Nat
  | (.string bytes, d) => bytes.length + uptoBulk d + 1
  | (_, d) => uptoBulk d + 1
 end
def uptoSmall : (H : Type) → List (DataW H) → Bool := fun _ ds => decide (uptoBulkAll ds ≤ 1048576)
def OpenSpec.upto (s : _root_.Go.ChangeSpec) : _root_.Go.OpenSpec := { _root_.Go.OpenSpec.ofChange s with cond := some uptoSmall }

/-- 'stadholderlaw17.SealKnown', WHERE WHAT IT READS IS OF BULK AT MOST 1048576: true; the input reads as it did. -/
def sealKnownUptoRow : OpenClaim := { program := "ytcmgioafkacgdaa", sum := "f5472196356eae8c91d284196626b08f1c93f3afebc260083222e826504b5e09", func := "stadholder/stadholderlaw17.SealKnown", spec := "sealKnown", apart := false, narrowed := true }
def SealKnownUptoSaid : Prop := sealKnownUptoRow.holds Try.pinned (OpenSpec.upto sealKnownSpec)

/-- 'stadholderlaw17.SealSays', WHERE WHAT IT READS IS OF BULK AT MOST 1048576: true; the input reads as it did. -/
def sealSaysUptoRow : OpenClaim := { program := "ytcmgioafkacgdaa", sum := "f5472196356eae8c91d284196626b08f1c93f3afebc260083222e826504b5e09", func := "stadholder/stadholderlaw17.SealSays", spec := "sealSays", apart := false, narrowed := true }
def SealSaysUptoSaid : Prop := sealSaysUptoRow.holds Try.pinned (OpenSpec.upto sealSaysSpec)

/-- 'stadholderlaw17.SealOnce', WHERE WHAT IT READS IS OF BULK AT MOST 1048576: true; the input reads as it did. -/
def sealOnceUptoRow : OpenClaim := { program := "ytcmgioafkacgdaa", sum := "f5472196356eae8c91d284196626b08f1c93f3afebc260083222e826504b5e09", func := "stadholder/stadholderlaw17.SealOnce", spec := "sealOnce", apart := false, narrowed := true }
def SealOnceUptoSaid : Prop := sealOnceUptoRow.holds Try.pinned (OpenSpec.upto sealOnceSpec)

end Rows
end Go.Proofs.Ytcmgioafkacgdaa
