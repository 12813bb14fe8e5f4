/-
  No cell of these rows narrows 'for every input' (looked for: loops, veiled, ifaces, maps, wideKeys, modest, calm, conditions, laid).
  DERIVED. THE GIVEN ROWS OF THIS SEAT. 7 by the template 'for every input the law returns true; each argument reads behind the call as it read before'; 0 by the template 'total and deterministic' (their statements: YthaacidfpcljfaaTotals.lean).
  GIVEN WITH THE SEED: the statements are not yours to turn. If you find one false, say at which input.
  Laid BY PROGRAM, IN A SANDBOX (cutbox-rows.mjs): the forced cells as the released guide's own fill.sh prints them over the translation 8744df9d1579fbc8… (all of the seat's roots in one cut). By AI agents, Wed Nov 11 2026. No macro, syntax, notation, axiom, sorry.
-/
import Derived.Test.YthaacidfpcljfaaChecked
import GoSem.Claim
import GoSem.ClaimJoined
import GoSem.ClaimMapViews
import Derived.JoinedTies
import Derived.KernelRfl
namespace Go.Proofs.Ythaacidfpcljfaa
/- THE CELL 'sum', in the pinned program and in every row, IS THE sha256 OF THE DUMP (.gsa) THAT YthaacidfpcljfaaProg.lean LOADS. Nothing in Lean hashes anything: it is a label: what it is worth is what the hold of that sum in a sandbox is worth. -/
noncomputable def Try.pinned : Pinned := { name := "ythaacidfpcljfaa", sum := "8744df9d1579fbc83dd983e92e523837afb21507e216aaeac0719be1ee2ee890", checked := Try.checked }
namespace Rows
def none {H : Type} : Left H := { results := [], args := [] }

/-- 'stadholderlaw1.WholeSums': WHATEVER THE INPUT: true; the input reads as it did. -/
def wholeSumsSpec : ChangeSpec := { name := "wholeSums", fn := fun _ => fun
  | [d1, d2] => { results := [.lit (.bool true)], args := [d1, d2] }
  | _ => none }
def wholeSumsRow : OpenClaim := { program := "ythaacidfpcljfaa", sum := "8744df9d1579fbc83dd983e92e523837afb21507e216aaeac0719be1ee2ee890", func := "stadholder/stadholderlaw1.WholeSums", spec := "wholeSums", inPlace := ["math/bits.Add64"], named := ["math/bits.divideError", "math/bits.overflowError"], apart := false }
def WholeSumsSaid : Prop := wholeSumsRow.holds Try.pinned (OpenSpec.ofChange wholeSumsSpec)

/-- ITS FALSE NEIGHBOUR: 'it returns false'. Refute it at one input. -/
def wholeSumsWrong : ChangeSpec := { name := "wholeSums", fn := fun _ => fun
  | [d1, d2] => { results := [.lit (.bool false)], args := [d1, d2] }
  | _ => none }
def WholeSumsWrongFalsely : Prop := wholeSumsRow.holds Try.pinned (OpenSpec.ofChange wholeSumsWrong)

/-- 'stadholderlaw1.WholeHeld': WHATEVER THE INPUT: true; the input reads as it did. -/
def wholeHeldSpec : ChangeSpec := { name := "wholeHeld", fn := fun _ => fun
  | [d1, d2, d3] => { results := [.lit (.bool true)], args := [d1, d2, d3] }
  | _ => none }
def wholeHeldRow : OpenClaim := { program := "ythaacidfpcljfaa", sum := "8744df9d1579fbc83dd983e92e523837afb21507e216aaeac0719be1ee2ee890", func := "stadholder/stadholderlaw1.WholeHeld", spec := "wholeHeld", inPlace := ["math/bits.Add64"], named := ["math/bits.divideError", "math/bits.overflowError"], apart := false }
def WholeHeldSaid : Prop := wholeHeldRow.holds Try.pinned (OpenSpec.ofChange wholeHeldSpec)

/-- ITS FALSE NEIGHBOUR: 'it returns false'. Refute it at one input. -/
def wholeHeldWrong : ChangeSpec := { name := "wholeHeld", fn := fun _ => fun
  | [d1, d2, d3] => { results := [.lit (.bool false)], args := [d1, d2, d3] }
  | _ => none }
def WholeHeldWrongFalsely : Prop := wholeHeldRow.holds Try.pinned (OpenSpec.ofChange wholeHeldWrong)

/-- 'stadholderlaw1.WholeBack': WHATEVER THE INPUT: true; the input reads as it did. -/
def wholeBackSpec : ChangeSpec := { name := "wholeBack", fn := fun _ => fun
  | [d1, d2] => { results := [.lit (.bool true)], args := [d1, d2] }
  | _ => none }
def wholeBackRow : OpenClaim := { program := "ythaacidfpcljfaa", sum := "8744df9d1579fbc83dd983e92e523837afb21507e216aaeac0719be1ee2ee890", func := "stadholder/stadholderlaw1.WholeBack", spec := "wholeBack", inPlace := ["math/bits.Add64"], named := ["math/bits.divideError", "math/bits.overflowError"], apart := false }
def WholeBackSaid : Prop := wholeBackRow.holds Try.pinned (OpenSpec.ofChange wholeBackSpec)

/-- ITS FALSE NEIGHBOUR: 'it returns false'. Refute it at one input. -/
def wholeBackWrong : ChangeSpec := { name := "wholeBack", fn := fun _ => fun
  | [d1, d2] => { results := [.lit (.bool false)], args := [d1, d2] }
  | _ => none }
def WholeBackWrongFalsely : Prop := wholeBackRow.holds Try.pinned (OpenSpec.ofChange wholeBackWrong)

/-- 'stadholderlaw1.WholeOrder': WHATEVER THE INPUT: true; the input reads as it did. -/
def wholeOrderSpec : ChangeSpec := { name := "wholeOrder", fn := fun _ => fun
  | [d1, d2, d3, d4] => { results := [.lit (.bool true)], args := [d1, d2, d3, d4] }
  | _ => none }
def wholeOrderRow : OpenClaim := { program := "ythaacidfpcljfaa", sum := "8744df9d1579fbc83dd983e92e523837afb21507e216aaeac0719be1ee2ee890", func := "stadholder/stadholderlaw1.WholeOrder", spec := "wholeOrder", inPlace := ["math/bits.Add64"], named := ["math/bits.divideError", "math/bits.overflowError"], apart := false }
def WholeOrderSaid : Prop := wholeOrderRow.holds Try.pinned (OpenSpec.ofChange wholeOrderSpec)

/-- ITS FALSE NEIGHBOUR: 'it returns false'. Refute it at one input. -/
def wholeOrderWrong : ChangeSpec := { name := "wholeOrder", fn := fun _ => fun
  | [d1, d2, d3, d4] => { results := [.lit (.bool false)], args := [d1, d2, d3, d4] }
  | _ => none }
def WholeOrderWrongFalsely : Prop := wholeOrderRow.holds Try.pinned (OpenSpec.ofChange wholeOrderWrong)

/-- 'stadholderlaw1.WholeWide': WHATEVER THE INPUT: true; the input reads as it did. -/
def wholeWideSpec : ChangeSpec := { name := "wholeWide", fn := fun _ => fun
  | [d1, d2, d3] => { results := [.lit (.bool true)], args := [d1, d2, d3] }
  | _ => none }
def wholeWideRow : OpenClaim := { program := "ythaacidfpcljfaa", sum := "8744df9d1579fbc83dd983e92e523837afb21507e216aaeac0719be1ee2ee890", func := "stadholder/stadholderlaw1.WholeWide", spec := "wholeWide", inPlace := ["math/bits.Add64"], named := ["math/bits.divideError", "math/bits.overflowError"], apart := false }
def WholeWideSaid : Prop := wholeWideRow.holds Try.pinned (OpenSpec.ofChange wholeWideSpec)

/-- ITS FALSE NEIGHBOUR: 'it returns false'. Refute it at one input. -/
def wholeWideWrong : ChangeSpec := { name := "wholeWide", fn := fun _ => fun
  | [d1, d2, d3] => { results := [.lit (.bool false)], args := [d1, d2, d3] }
  | _ => none }
def WholeWideWrongFalsely : Prop := wholeWideRow.holds Try.pinned (OpenSpec.ofChange wholeWideWrong)

/-- 'stadholderlaw1.WholeSays': WHATEVER THE INPUT: true; the input reads as it did. -/
def wholeSaysSpec : ChangeSpec := { name := "wholeSays", fn := fun _ => fun
  | [d1, d2, d3, d4, d5] => { results := [.lit (.bool true)], args := [d1, d2, d3, d4, d5] }
  | _ => none }
def wholeSaysRow : OpenClaim := { program := "ythaacidfpcljfaa", sum := "8744df9d1579fbc83dd983e92e523837afb21507e216aaeac0719be1ee2ee890", func := "stadholder/stadholderlaw1.WholeSays", spec := "wholeSays", inPlace := ["math/bits.Add64"], named := ["math/bits.divideError", "math/bits.overflowError"], apart := false }
def WholeSaysSaid : Prop := wholeSaysRow.holds Try.pinned (OpenSpec.ofChange wholeSaysSpec)

/-- ITS FALSE NEIGHBOUR: 'it returns false'. Refute it at one input. -/
def wholeSaysWrong : ChangeSpec := { name := "wholeSays", fn := fun _ => fun
  | [d1, d2, d3, d4, d5] => { results := [.lit (.bool false)], args := [d1, d2, d3, d4, d5] }
  | _ => none }
def WholeSaysWrongFalsely : Prop := wholeSaysRow.holds Try.pinned (OpenSpec.ofChange wholeSaysWrong)

/-- 'stadholderlaw1.WholeKnown': WHATEVER THE INPUT: true; the input reads as it did. -/
def wholeKnownSpec : ChangeSpec := { name := "wholeKnown", fn := fun _ => fun
  | [] => { results := [.lit (.bool true)], args := [] }
  | _ => none }
def wholeKnownRow : OpenClaim := { program := "ythaacidfpcljfaa", sum := "8744df9d1579fbc83dd983e92e523837afb21507e216aaeac0719be1ee2ee890", func := "stadholder/stadholderlaw1.WholeKnown", spec := "wholeKnown", inPlace := ["math/bits.Add64"], named := ["math/bits.divideError", "math/bits.overflowError"], apart := false }
def WholeKnownSaid : Prop := wholeKnownRow.holds Try.pinned (OpenSpec.ofChange wholeKnownSpec)

/-- ITS FALSE NEIGHBOUR: 'it returns false'. Refute it at one input. -/
def wholeKnownWrong : ChangeSpec := { name := "wholeKnown", fn := fun _ => fun
  | [] => { results := [.lit (.bool false)], args := [] }
  | _ => none }
def WholeKnownWrongFalsely : Prop := wholeKnownRow.holds Try.pinned (OpenSpec.ofChange wholeKnownWrong)

/- THE SECOND FORM. 'bulk': how many values and letters a reading holds, each counted each time it is reached (what is shared counts as often as it is met; a slice's spare places count too). A statement '..UptoSaid' is the law's where the arguments, and the package variables that the reading takes, are together of bulk at most 1048576: NARROWER than '..Said'. Prove '..Said' where nothing that the law and all that it calls make is longer than what came in: it says more and counts as full. Else prove '..UptoSaid'. A law counts once. -/
mutual
def uptoBulk {H : Type} : DataW H → Nat
  | .lit (.string bytes) => bytes.length + 1
  | .lit _ => 1
  | .nil => 1
  | .ptr d => uptoBulk d + 1
  | .slice elems spare => uptoBulkAll elems + uptoBulkAll spare + 1
  | .agg parts => uptoBulkAll parts + 1
  | .iface _ d => uptoBulk d + 1
  | .map entries => uptoBulkEntries entries + 1
  | .held _ => 1
def uptoBulkAll {H : Type} : List (DataW H) → Nat
  | [] => 0
  | d :: r => uptoBulk d + uptoBulkAll r
def uptoBulkEntries {H : Type} : List (Lit × DataW H) → Nat
  | [] => 0
  | x :: r => uptoBulkEntry x + uptoBulkEntries r
def uptoBulkEntry {H : Type} : Lit × DataW H → Nat
  | (.string bytes, d) => bytes.length + uptoBulk d + 1
  | (_, d) => uptoBulk d + 1
 end
def uptoSmall : (H : Type) → List (DataW H) → Bool := fun _ ds => decide (uptoBulkAll ds ≤ 1048576)
def OpenSpec.upto (s : _root_.Go.ChangeSpec) : _root_.Go.OpenSpec := { _root_.Go.OpenSpec.ofChange s with cond := some uptoSmall }

/-- 'stadholderlaw1.WholeSums', WHERE WHAT IT READS IS OF BULK AT MOST 1048576: true; the input reads as it did. -/
def wholeSumsUptoRow : OpenClaim := { program := "ythaacidfpcljfaa", sum := "8744df9d1579fbc83dd983e92e523837afb21507e216aaeac0719be1ee2ee890", func := "stadholder/stadholderlaw1.WholeSums", spec := "wholeSums", inPlace := ["math/bits.Add64"], named := ["math/bits.divideError", "math/bits.overflowError"], apart := false, narrowed := true }
def WholeSumsUptoSaid : Prop := wholeSumsUptoRow.holds Try.pinned (OpenSpec.upto wholeSumsSpec)

/-- 'stadholderlaw1.WholeHeld', WHERE WHAT IT READS IS OF BULK AT MOST 1048576: true; the input reads as it did. -/
def wholeHeldUptoRow : OpenClaim := { program := "ythaacidfpcljfaa", sum := "8744df9d1579fbc83dd983e92e523837afb21507e216aaeac0719be1ee2ee890", func := "stadholder/stadholderlaw1.WholeHeld", spec := "wholeHeld", inPlace := ["math/bits.Add64"], named := ["math/bits.divideError", "math/bits.overflowError"], apart := false, narrowed := true }
def WholeHeldUptoSaid : Prop := wholeHeldUptoRow.holds Try.pinned (OpenSpec.upto wholeHeldSpec)

/-- 'stadholderlaw1.WholeBack', WHERE WHAT IT READS IS OF BULK AT MOST 1048576: true; the input reads as it did. -/
def wholeBackUptoRow : OpenClaim := { program := "ythaacidfpcljfaa", sum := "8744df9d1579fbc83dd983e92e523837afb21507e216aaeac0719be1ee2ee890", func := "stadholder/stadholderlaw1.WholeBack", spec := "wholeBack", inPlace := ["math/bits.Add64"], named := ["math/bits.divideError", "math/bits.overflowError"], apart := false, narrowed := true }
def WholeBackUptoSaid : Prop := wholeBackUptoRow.holds Try.pinned (OpenSpec.upto wholeBackSpec)

/-- 'stadholderlaw1.WholeOrder', WHERE WHAT IT READS IS OF BULK AT MOST 1048576: true; the input reads as it did. -/
def wholeOrderUptoRow : OpenClaim := { program := "ythaacidfpcljfaa", sum := "8744df9d1579fbc83dd983e92e523837afb21507e216aaeac0719be1ee2ee890", func := "stadholder/stadholderlaw1.WholeOrder", spec := "wholeOrder", inPlace := ["math/bits.Add64"], named := ["math/bits.divideError", "math/bits.overflowError"], apart := false, narrowed := true }
def WholeOrderUptoSaid : Prop := wholeOrderUptoRow.holds Try.pinned (OpenSpec.upto wholeOrderSpec)

/-- 'stadholderlaw1.WholeWide', WHERE WHAT IT READS IS OF BULK AT MOST 1048576: true; the input reads as it did. -/
def wholeWideUptoRow : OpenClaim := { program := "ythaacidfpcljfaa", sum := "8744df9d1579fbc83dd983e92e523837afb21507e216aaeac0719be1ee2ee890", func := "stadholder/stadholderlaw1.WholeWide", spec := "wholeWide", inPlace := ["math/bits.Add64"], named := ["math/bits.divideError", "math/bits.overflowError"], apart := false, narrowed := true }
def WholeWideUptoSaid : Prop := wholeWideUptoRow.holds Try.pinned (OpenSpec.upto wholeWideSpec)

/-- 'stadholderlaw1.WholeSays', WHERE WHAT IT READS IS OF BULK AT MOST 1048576: true; the input reads as it did. -/
def wholeSaysUptoRow : OpenClaim := { program := "ythaacidfpcljfaa", sum := "8744df9d1579fbc83dd983e92e523837afb21507e216aaeac0719be1ee2ee890", func := "stadholder/stadholderlaw1.WholeSays", spec := "wholeSays", inPlace := ["math/bits.Add64"], named := ["math/bits.divideError", "math/bits.overflowError"], apart := false, narrowed := true }
def WholeSaysUptoSaid : Prop := wholeSaysUptoRow.holds Try.pinned (OpenSpec.upto wholeSaysSpec)

/-- 'stadholderlaw1.WholeKnown', WHERE WHAT IT READS IS OF BULK AT MOST 1048576: true; the input reads as it did. -/
def wholeKnownUptoRow : OpenClaim := { program := "ythaacidfpcljfaa", sum := "8744df9d1579fbc83dd983e92e523837afb21507e216aaeac0719be1ee2ee890", func := "stadholder/stadholderlaw1.WholeKnown", spec := "wholeKnown", inPlace := ["math/bits.Add64"], named := ["math/bits.divideError", "math/bits.overflowError"], apart := false, narrowed := true }
def WholeKnownUptoSaid : Prop := wholeKnownUptoRow.holds Try.pinned (OpenSpec.upto wholeKnownSpec)

end Rows
end Go.Proofs.Ythaacidfpcljfaa
