/-
  No cell of these rows narrows 'for every input' (looked for: loops, veiled, ifaces, maps, wideKeys, modest, calm, conditions, laid).
  DERIVED. THE GIVEN ROWS OF THIS SEAT. 4 by the template 'for every input the law returns true; each argument reads behind the call as it read before'; 0 by the template 'total and deterministic' (their statements: YtddgcakiceodgaaGreatTotals.lean).
  GIVEN WITH THE SEED: the statements are not yours to turn. If you find one false, say at which input.
  Laid BY PROGRAM, IN A SANDBOX (cutbox-rows.mjs): the forced cells as the released guide's own fill.sh prints them over the translation 665f5e0550793da3… (all of the seat's roots in one cut). By AI agents, Wed Nov 11 2026. No macro, syntax, notation, axiom, sorry.
-/
import Derived.Test.YtddgcakiceodgaaGreatChecked
import GoSem.Claim
import GoSem.ClaimJoined
import GoSem.ClaimMapViews
import Derived.JoinedTies
import Derived.KernelRfl
namespace Go.Proofs.YtddgcakiceodgaaGreat
/- THE CELL 'sum', in the pinned program and in every row, IS THE sha256 OF THE DUMP (.gsa) THAT YtddgcakiceodgaaGreatProg.lean LOADS. Nothing in Lean hashes anything: it is a label: what it is worth is what the hold of that sum in a sandbox is worth. -/
noncomputable def Tryz.pinned : Pinned := { name := "ytddgcakiceodgaagreat", sum := "665f5e0550793da3f15ed96b6ae1c1a06b172914e5b5ab7afb27c8e6d0709a69", checked := Tryz.checked }
namespace Rows
def none {H : Type} : Left H := { results := [], args := [] }

/-- 'stadholderlaw22.StageFive': WHATEVER THE INPUT: true; the input reads as it did. -/
def stageFiveSpec : ChangeSpec := { name := "stageFive", fn := fun _ => fun
  | [d1, d2, d3, d4] => { results := [.lit (.bool true)], args := [d1, d2, d3, d4] }
  | _ => none }
def stageFiveRow : OpenClaim := { program := "ytddgcakiceodgaagreat", sum := "665f5e0550793da3f15ed96b6ae1c1a06b172914e5b5ab7afb27c8e6d0709a69", func := "stadholder/stadholderlaw22.StageFive", spec := "stageFive", unfollowed := true, recurses := true, apart := false }
def StageFiveSaid : Prop := stageFiveRow.holds Tryz.pinned (OpenSpec.ofChange stageFiveSpec)

/-- ITS FALSE NEIGHBOUR: 'it returns false'. Refute it at one input. -/
def stageFiveWrong : ChangeSpec := { name := "stageFive", fn := fun _ => fun
  | [d1, d2, d3, d4] => { results := [.lit (.bool false)], args := [d1, d2, d3, d4] }
  | _ => none }
def StageFiveWrongFalsely : Prop := stageFiveRow.holds Tryz.pinned (OpenSpec.ofChange stageFiveWrong)

/-- 'stadholderlaw22.StageStale': WHATEVER THE INPUT: true; the input reads as it did. -/
def stageStaleSpec : ChangeSpec := { name := "stageStale", fn := fun _ => fun
  | [d1, d2, d3, d4] => { results := [.lit (.bool true)], args := [d1, d2, d3, d4] }
  | _ => none }
def stageStaleRow : OpenClaim := { program := "ytddgcakiceodgaagreat", sum := "665f5e0550793da3f15ed96b6ae1c1a06b172914e5b5ab7afb27c8e6d0709a69", func := "stadholder/stadholderlaw22.StageStale", spec := "stageStale", unfollowed := true, recurses := true, apart := false }
def StageStaleSaid : Prop := stageStaleRow.holds Tryz.pinned (OpenSpec.ofChange stageStaleSpec)

/-- ITS FALSE NEIGHBOUR: 'it returns false'. Refute it at one input. -/
def stageStaleWrong : ChangeSpec := { name := "stageStale", fn := fun _ => fun
  | [d1, d2, d3, d4] => { results := [.lit (.bool false)], args := [d1, d2, d3, d4] }
  | _ => none }
def StageStaleWrongFalsely : Prop := stageStaleRow.holds Tryz.pinned (OpenSpec.ofChange stageStaleWrong)

/-- 'stadholderlaw22.StageKnown': WHATEVER THE INPUT: true; the input reads as it did. -/
def stageKnownSpec : ChangeSpec := { name := "stageKnown", fn := fun _ => fun
  | [] => { results := [.lit (.bool true)], args := [] }
  | _ => none }
def stageKnownRow : OpenClaim := { program := "ytddgcakiceodgaagreat", sum := "665f5e0550793da3f15ed96b6ae1c1a06b172914e5b5ab7afb27c8e6d0709a69", func := "stadholder/stadholderlaw22.StageKnown", spec := "stageKnown", unfollowed := true, recurses := true, apart := false }
def StageKnownSaid : Prop := stageKnownRow.holds Tryz.pinned (OpenSpec.ofChange stageKnownSpec)

/-- ITS FALSE NEIGHBOUR: 'it returns false'. Refute it at one input. -/
def stageKnownWrong : ChangeSpec := { name := "stageKnown", fn := fun _ => fun
  | [] => { results := [.lit (.bool false)], args := [] }
  | _ => none }
def StageKnownWrongFalsely : Prop := stageKnownRow.holds Tryz.pinned (OpenSpec.ofChange stageKnownWrong)

/-- 'stadholderlaw22.StagePlays': WHATEVER THE INPUT: true; the input reads as it did. -/
def stagePlaysSpec : ChangeSpec := { name := "stagePlays", fn := fun _ => fun
  | [d1, d2, d3, d4] => { results := [.lit (.bool true)], args := [d1, d2, d3, d4] }
  | _ => none }
def stagePlaysRow : OpenClaim := { program := "ytddgcakiceodgaagreat", sum := "665f5e0550793da3f15ed96b6ae1c1a06b172914e5b5ab7afb27c8e6d0709a69", func := "stadholder/stadholderlaw22.StagePlays", spec := "stagePlays", unfollowed := true, recurses := true, apart := false }
def StagePlaysSaid : Prop := stagePlaysRow.holds Tryz.pinned (OpenSpec.ofChange stagePlaysSpec)

/-- ITS FALSE NEIGHBOUR: 'it returns false'. Refute it at one input. -/
def stagePlaysWrong : ChangeSpec := { name := "stagePlays", fn := fun _ => fun
  | [d1, d2, d3, d4] => { results := [.lit (.bool false)], args := [d1, d2, d3, d4] }
  | _ => none }
def StagePlaysWrongFalsely : Prop := stagePlaysRow.holds Tryz.pinned (OpenSpec.ofChange stagePlaysWrong)

/- THE SECOND FORM. 'bulk': how many values and letters a reading holds, each counted each time it is reached (what is shared counts as often as it is met; a slice's spare places count too). A statement '..UptoSaid' is the law's where the arguments, and the package variables that the reading takes, are together of bulk at most 1048576: NARROWER than '..Said'. Prove '..Said' where nothing that the law and all that it calls make is longer than what came in: it says more and counts as full. Else prove '..UptoSaid'. A law counts once. -/
mutual
def uptoBulk {H : Type} : DataW H → Nat
  | .lit (.string bytes) => bytes.length + 1
  | .lit _ => 1
  | .nil => 1
  | .ptr d => uptoBulk d + 1
  | .slice elems spare => uptoBulkAll elems + uptoBulkAll spare + 1
  | .agg parts => uptoBulkAll parts + 1
  | .iface _ d => uptoBulk d + 1
  | .map entries => uptoBulkEntries entries + 1
  | .held _ => 1
def uptoBulkAll {H : Type} : List (DataW H) → Nat
  | [] => 0
  | d :: r => uptoBulk d + uptoBulkAll r
def uptoBulkEntries {H : Type} : List (Lit × DataW H) → Nat
  | [] => 0
  | x :: r => uptoBulkEntry x + uptoBulkEntries r
def uptoBulkEntry {H : Type} : Lit × DataW H → Nat
  | (.string bytes, d) => bytes.length + uptoBulk d + 1
  | (_, d) => uptoBulk d + 1
 end
def uptoSmall : (H : Type) → List (DataW H) → Bool := fun _ ds => decide (uptoBulkAll ds ≤ 1048576)
def OpenSpec.upto (s : _root_.Go.ChangeSpec) : _root_.Go.OpenSpec := { _root_.Go.OpenSpec.ofChange s with cond := some uptoSmall }

/-- 'stadholderlaw22.StageFive', WHERE WHAT IT READS IS OF BULK AT MOST 1048576: true; the input reads as it did. -/
def stageFiveUptoRow : OpenClaim := { program := "ytddgcakiceodgaagreat", sum := "665f5e0550793da3f15ed96b6ae1c1a06b172914e5b5ab7afb27c8e6d0709a69", func := "stadholder/stadholderlaw22.StageFive", spec := "stageFive", unfollowed := true, recurses := true, apart := false, narrowed := true }
def StageFiveUptoSaid : Prop := stageFiveUptoRow.holds Tryz.pinned (OpenSpec.upto stageFiveSpec)

/-- 'stadholderlaw22.StageStale', WHERE WHAT IT READS IS OF BULK AT MOST 1048576: true; the input reads as it did. -/
def stageStaleUptoRow : OpenClaim := { program := "ytddgcakiceodgaagreat", sum := "665f5e0550793da3f15ed96b6ae1c1a06b172914e5b5ab7afb27c8e6d0709a69", func := "stadholder/stadholderlaw22.StageStale", spec := "stageStale", unfollowed := true, recurses := true, apart := false, narrowed := true }
def StageStaleUptoSaid : Prop := stageStaleUptoRow.holds Tryz.pinned (OpenSpec.upto stageStaleSpec)

/-- 'stadholderlaw22.StageKnown', WHERE WHAT IT READS IS OF BULK AT MOST 1048576: true; the input reads as it did. -/
def stageKnownUptoRow : OpenClaim := { program := "ytddgcakiceodgaagreat", sum := "665f5e0550793da3f15ed96b6ae1c1a06b172914e5b5ab7afb27c8e6d0709a69", func := "stadholder/stadholderlaw22.StageKnown", spec := "stageKnown", unfollowed := true, recurses := true, apart := false, narrowed := true }
def StageKnownUptoSaid : Prop := stageKnownUptoRow.holds Tryz.pinned (OpenSpec.upto stageKnownSpec)

/-- 'stadholderlaw22.StagePlays', WHERE WHAT IT READS IS OF BULK AT MOST 1048576: true; the input reads as it did. -/
def stagePlaysUptoRow : OpenClaim := { program := "ytddgcakiceodgaagreat", sum := "665f5e0550793da3f15ed96b6ae1c1a06b172914e5b5ab7afb27c8e6d0709a69", func := "stadholder/stadholderlaw22.StagePlays", spec := "stagePlays", unfollowed := true, recurses := true, apart := false, narrowed := true }
def StagePlaysUptoSaid : Prop := stagePlaysUptoRow.holds Tryz.pinned (OpenSpec.upto stagePlaysSpec)

end Rows
end Go.Proofs.YtddgcakiceodgaaGreat
