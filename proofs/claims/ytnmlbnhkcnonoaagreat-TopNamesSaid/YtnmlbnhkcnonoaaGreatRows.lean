/-
  No cell of these rows narrows 'for every input' (looked for: loops, veiled, ifaces, maps, wideKeys, modest, calm, conditions, laid).
  DERIVED. THE GIVEN ROWS OF THIS SEAT. 6 by the template 'for every input the law returns true; each argument reads behind the call as it read before'; 0 by the template 'total and deterministic' (their statements: YtnmlbnhkcnonoaaGreatTotals.lean).
  GIVEN WITH THE SEED: the statements are not yours to turn. If you find one false, say at which input.
  Laid BY PROGRAM, IN A SANDBOX (cutbox-rows.mjs): the forced cells as the released guide's own fill.sh prints them over the translation f539bac75a695ebb… (all of the seat's roots in one cut). By AI agents, Wed Nov 11 2026. No macro, syntax, notation, axiom, sorry.
-/
import Derived.Test.YtnmlbnhkcnonoaaGreatChecked
import GoSem.Claim
import GoSem.ClaimJoined
import GoSem.ClaimMapViews
import Derived.JoinedTies
import Derived.KernelRfl
namespace Go.Proofs.YtnmlbnhkcnonoaaGreat
/- THE CELL 'sum', in the pinned program and in every row, IS THE sha256 OF THE DUMP (.gsa) THAT YtnmlbnhkcnonoaaGreatProg.lean LOADS. Nothing in Lean hashes anything: it is a label: what it is worth is what the hold of that sum in a sandbox is worth. -/
noncomputable def Tryz.pinned : Pinned := { name := "ytnmlbnhkcnonoaagreat", sum := "f539bac75a695ebb4d53f89ac1ccfd4f17c30249c5d298878ead8ff46b3342b1", checked := Tryz.checked }
namespace Rows
def none {H : Type} : Left H := { results := [], args := [] }

/-- 'stadholdertop.TopNames': WHATEVER THE INPUT: true; the input reads as it did. -/
def topNamesSpec : ChangeSpec := { name := "topNames", fn := fun _ => fun
  | [] => { results := [.lit (.bool true)], args := [] }
  | _ => none }
def topNamesRow : OpenClaim := { program := "ytnmlbnhkcnonoaagreat", sum := "f539bac75a695ebb4d53f89ac1ccfd4f17c30249c5d298878ead8ff46b3342b1", func := "stadholder/stadholdertop.TopNames", spec := "topNames", unfollowed := true, recurses := true, apart := false }
def TopNamesSaid : Prop := topNamesRow.holds Tryz.pinned (OpenSpec.ofChange topNamesSpec)

/-- ITS FALSE NEIGHBOUR: 'it returns false'. Refute it at one input. -/
def topNamesWrong : ChangeSpec := { name := "topNames", fn := fun _ => fun
  | [] => { results := [.lit (.bool false)], args := [] }
  | _ => none }
def TopNamesWrongFalsely : Prop := topNamesRow.holds Tryz.pinned (OpenSpec.ofChange topNamesWrong)

/-- 'stadholdertop.TopQuota': WHATEVER THE INPUT: true; the input reads as it did. -/
def topQuotaSpec : ChangeSpec := { name := "topQuota", fn := fun _ => fun
  | [d1, d2] => { results := [.lit (.bool true)], args := [d1, d2] }
  | _ => none }
def topQuotaRow : OpenClaim := { program := "ytnmlbnhkcnonoaagreat", sum := "f539bac75a695ebb4d53f89ac1ccfd4f17c30249c5d298878ead8ff46b3342b1", func := "stadholder/stadholdertop.TopQuota", spec := "topQuota", unfollowed := true, recurses := true, apart := false }
def TopQuotaSaid : Prop := topQuotaRow.holds Tryz.pinned (OpenSpec.ofChange topQuotaSpec)

/-- ITS FALSE NEIGHBOUR: 'it returns false'. Refute it at one input. -/
def topQuotaWrong : ChangeSpec := { name := "topQuota", fn := fun _ => fun
  | [d1, d2] => { results := [.lit (.bool false)], args := [d1, d2] }
  | _ => none }
def TopQuotaWrongFalsely : Prop := topQuotaRow.holds Tryz.pinned (OpenSpec.ofChange topQuotaWrong)

/-- 'stadholdertop.TopSleep': WHATEVER THE INPUT: true; the input reads as it did. -/
def topSleepSpec : ChangeSpec := { name := "topSleep", fn := fun _ => fun
  | [d1, d2, d3, d4] => { results := [.lit (.bool true)], args := [d1, d2, d3, d4] }
  | _ => none }
def topSleepRow : OpenClaim := { program := "ytnmlbnhkcnonoaagreat", sum := "f539bac75a695ebb4d53f89ac1ccfd4f17c30249c5d298878ead8ff46b3342b1", func := "stadholder/stadholdertop.TopSleep", spec := "topSleep", unfollowed := true, recurses := true, apart := false }
def TopSleepSaid : Prop := topSleepRow.holds Tryz.pinned (OpenSpec.ofChange topSleepSpec)

/-- ITS FALSE NEIGHBOUR: 'it returns false'. Refute it at one input. -/
def topSleepWrong : ChangeSpec := { name := "topSleep", fn := fun _ => fun
  | [d1, d2, d3, d4] => { results := [.lit (.bool false)], args := [d1, d2, d3, d4] }
  | _ => none }
def TopSleepWrongFalsely : Prop := topSleepRow.holds Tryz.pinned (OpenSpec.ofChange topSleepWrong)

/-- 'stadholdertop.TopQuiet': WHATEVER THE INPUT: true; the input reads as it did. -/
def topQuietSpec : ChangeSpec := { name := "topQuiet", fn := fun _ => fun
  | [d1, d2, d3, d4] => { results := [.lit (.bool true)], args := [d1, d2, d3, d4] }
  | _ => none }
def topQuietRow : OpenClaim := { program := "ytnmlbnhkcnonoaagreat", sum := "f539bac75a695ebb4d53f89ac1ccfd4f17c30249c5d298878ead8ff46b3342b1", func := "stadholder/stadholdertop.TopQuiet", spec := "topQuiet", unfollowed := true, recurses := true, apart := false }
def TopQuietSaid : Prop := topQuietRow.holds Tryz.pinned (OpenSpec.ofChange topQuietSpec)

/-- ITS FALSE NEIGHBOUR: 'it returns false'. Refute it at one input. -/
def topQuietWrong : ChangeSpec := { name := "topQuiet", fn := fun _ => fun
  | [d1, d2, d3, d4] => { results := [.lit (.bool false)], args := [d1, d2, d3, d4] }
  | _ => none }
def TopQuietWrongFalsely : Prop := topQuietRow.holds Tryz.pinned (OpenSpec.ofChange topQuietWrong)

/-- 'stadholdertop.TopServed': WHATEVER THE INPUT: true; the input reads as it did. -/
def topServedSpec : ChangeSpec := { name := "topServed", fn := fun _ => fun
  | [d1, d2] => { results := [.lit (.bool true)], args := [d1, d2] }
  | _ => none }
def topServedRow : OpenClaim := { program := "ytnmlbnhkcnonoaagreat", sum := "f539bac75a695ebb4d53f89ac1ccfd4f17c30249c5d298878ead8ff46b3342b1", func := "stadholder/stadholdertop.TopServed", spec := "topServed", unfollowed := true, recurses := true, apart := false }
def TopServedSaid : Prop := topServedRow.holds Tryz.pinned (OpenSpec.ofChange topServedSpec)

/-- ITS FALSE NEIGHBOUR: 'it returns false'. Refute it at one input. -/
def topServedWrong : ChangeSpec := { name := "topServed", fn := fun _ => fun
  | [d1, d2] => { results := [.lit (.bool false)], args := [d1, d2] }
  | _ => none }
def TopServedWrongFalsely : Prop := topServedRow.holds Tryz.pinned (OpenSpec.ofChange topServedWrong)

/-- 'stadholdertop.TopRefused': WHATEVER THE INPUT: true; the input reads as it did. -/
def topRefusedSpec : ChangeSpec := { name := "topRefused", fn := fun _ => fun
  | [d1, d2] => { results := [.lit (.bool true)], args := [d1, d2] }
  | _ => none }
def topRefusedRow : OpenClaim := { program := "ytnmlbnhkcnonoaagreat", sum := "f539bac75a695ebb4d53f89ac1ccfd4f17c30249c5d298878ead8ff46b3342b1", func := "stadholder/stadholdertop.TopRefused", spec := "topRefused", unfollowed := true, recurses := true, apart := false }
def TopRefusedSaid : Prop := topRefusedRow.holds Tryz.pinned (OpenSpec.ofChange topRefusedSpec)

/-- ITS FALSE NEIGHBOUR: 'it returns false'. Refute it at one input. -/
def topRefusedWrong : ChangeSpec := { name := "topRefused", fn := fun _ => fun
  | [d1, d2] => { results := [.lit (.bool false)], args := [d1, d2] }
  | _ => none }
def TopRefusedWrongFalsely : Prop := topRefusedRow.holds Tryz.pinned (OpenSpec.ofChange topRefusedWrong)

/- THE SECOND FORM. 'bulk': how many values and letters a reading holds, each counted each time it is reached (what is shared counts as often as it is met; a slice's spare places count too). A statement '..UptoSaid' is the law's where the arguments, and the package variables that the reading takes, are together of bulk at most 1048576: NARROWER than '..Said'. Prove '..Said' where nothing that the law and all that it calls make is longer than what came in: it says more and counts as full. Else prove '..UptoSaid'. A law counts once. -/
mutual
def uptoBulk {H : Type} : DataW H → Nat
  | .lit (.string bytes) => bytes.length + 1
  | .lit _ => 1
  | .nil => 1
  | .ptr d => uptoBulk d + 1
  | .slice elems spare => uptoBulkAll elems + uptoBulkAll spare + 1
  | .agg parts => uptoBulkAll parts + 1
  | .iface _ d => uptoBulk d + 1
  | .map entries => uptoBulkEntries entries + 1
  | .held _ => 1
def uptoBulkAll {H : Type} : List (DataW H) → Nat
  | [] => 0
  | d :: r => uptoBulk d + uptoBulkAll r
def uptoBulkEntries {H : Type} : List (Lit × DataW H) → Nat
  | [] => 0
  | x :: r => uptoBulkEntry x + uptoBulkEntries r
def uptoBulkEntry {H : Type} : Lit × DataW H → Nat
  | (.string bytes, d) => bytes.length + uptoBulk d + 1
  | (_, d) => uptoBulk d + 1
 end
def uptoSmall : (H : Type) → List (DataW H) → Bool := fun _ ds => decide (uptoBulkAll ds ≤ 1048576)
def OpenSpec.upto (s : _root_.Go.ChangeSpec) : _root_.Go.OpenSpec := { _root_.Go.OpenSpec.ofChange s with cond := some uptoSmall }

/-- 'stadholdertop.TopNames', WHERE WHAT IT READS IS OF BULK AT MOST 1048576: true; the input reads as it did. -/
def topNamesUptoRow : OpenClaim := { program := "ytnmlbnhkcnonoaagreat", sum := "f539bac75a695ebb4d53f89ac1ccfd4f17c30249c5d298878ead8ff46b3342b1", func := "stadholder/stadholdertop.TopNames", spec := "topNames", unfollowed := true, recurses := true, apart := false, narrowed := true }
def TopNamesUptoSaid : Prop := topNamesUptoRow.holds Tryz.pinned (OpenSpec.upto topNamesSpec)

/-- 'stadholdertop.TopQuota', WHERE WHAT IT READS IS OF BULK AT MOST 1048576: true; the input reads as it did. -/
def topQuotaUptoRow : OpenClaim := { program := "ytnmlbnhkcnonoaagreat", sum := "f539bac75a695ebb4d53f89ac1ccfd4f17c30249c5d298878ead8ff46b3342b1", func := "stadholder/stadholdertop.TopQuota", spec := "topQuota", unfollowed := true, recurses := true, apart := false, narrowed := true }
def TopQuotaUptoSaid : Prop := topQuotaUptoRow.holds Tryz.pinned (OpenSpec.upto topQuotaSpec)

/-- 'stadholdertop.TopSleep', WHERE WHAT IT READS IS OF BULK AT MOST 1048576: true; the input reads as it did. -/
def topSleepUptoRow : OpenClaim := { program := "ytnmlbnhkcnonoaagreat", sum := "f539bac75a695ebb4d53f89ac1ccfd4f17c30249c5d298878ead8ff46b3342b1", func := "stadholder/stadholdertop.TopSleep", spec := "topSleep", unfollowed := true, recurses := true, apart := false, narrowed := true }
def TopSleepUptoSaid : Prop := topSleepUptoRow.holds Tryz.pinned (OpenSpec.upto topSleepSpec)

/-- 'stadholdertop.TopQuiet', WHERE WHAT IT READS IS OF BULK AT MOST 1048576: true; the input reads as it did. -/
def topQuietUptoRow : OpenClaim := { program := "ytnmlbnhkcnonoaagreat", sum := "f539bac75a695ebb4d53f89ac1ccfd4f17c30249c5d298878ead8ff46b3342b1", func := "stadholder/stadholdertop.TopQuiet", spec := "topQuiet", unfollowed := true, recurses := true, apart := false, narrowed := true }
def TopQuietUptoSaid : Prop := topQuietUptoRow.holds Tryz.pinned (OpenSpec.upto topQuietSpec)

/-- 'stadholdertop.TopServed', WHERE WHAT IT READS IS OF BULK AT MOST 1048576: true; the input reads as it did. -/
def topServedUptoRow : OpenClaim := { program := "ytnmlbnhkcnonoaagreat", sum := "f539bac75a695ebb4d53f89ac1ccfd4f17c30249c5d298878ead8ff46b3342b1", func := "stadholder/stadholdertop.TopServed", spec := "topServed", unfollowed := true, recurses := true, apart := false, narrowed := true }
def TopServedUptoSaid : Prop := topServedUptoRow.holds Tryz.pinned (OpenSpec.upto topServedSpec)

/-- 'stadholdertop.TopRefused', WHERE WHAT IT READS IS OF BULK AT MOST 1048576: true; the input reads as it did. -/
def topRefusedUptoRow : OpenClaim := { program := "ytnmlbnhkcnonoaagreat", sum := "f539bac75a695ebb4d53f89ac1ccfd4f17c30249c5d298878ead8ff46b3342b1", func := "stadholder/stadholdertop.TopRefused", spec := "topRefused", unfollowed := true, recurses := true, apart := false, narrowed := true }
def TopRefusedUptoSaid : Prop := topRefusedUptoRow.holds Tryz.pinned (OpenSpec.upto topRefusedSpec)

end Rows
end Go.Proofs.YtnmlbnhkcnonoaaGreat
