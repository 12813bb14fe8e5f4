/- ElderKnown: the program's ElderKnown answers true, whatever the world; no condition. The evaluator of the texts Ev1 to Ev9 (proved sound there) goes through it. -/
import Derived.Test.YtlandojofjkeaaaRows
import Derived.Test.YtlandojofjkeaaaEv9
import Derived.WalkKit
import Derived.ProofKit
import Derived.OpenShut
import Derived.ShutString
import Derived.ChangeOld
import Derived.Below
import Derived.SizedLaws
namespace Go.Proofs.Ytlandojofjkeaaa.elderKnown
open Go.ChangeShapes Go.WideShapes Go.ChangeAt Go.RowKit
open Go.ChangeMaps (open_string shut_string)
set_option linter.unusedVariables false
def okT : Option (Value × EV.Heap) → Bool
  | some (.bool true, _) => true
  | _ => false
theorem okT_inv {x : Option (Value × EV.Heap)} (h : okT x = true) : ∃ h', x = some (.bool true, h') := by
  unfold okT at h
  split at h
  · exact ⟨_, rfl⟩
  · cases h
set_option maxRecDepth 100000 in
theorem run : okT ((EV.ev Try.prog 4000).F 6 [] ⟨0, .nil⟩) = true := by decide +kernel
set_option maxRecDepth 100000 in
theorem names : (Try.prog.funcs.toList.all fun fn => !(fn.name == "runtime.NumGoroutine")) = true := by decide +kernel
theorem calls (W : World) : Calls Try.prog 6 #[] W fun e W' => e = .returned (.bool true) ∧ Below W.heap.size W W' := by
  obtain ⟨h', he⟩ := okT_inv run
  refine EV.ev_calls (fun fn hf e => ?_) (by kernel_rfl) he W
  have := List.all_eq_true.1 names fn hf
  rw [e] at this
  simp at this
theorem own : ownKnob Try.prog.godebug = none := by kernel_rfl
set_option maxRecDepth 100000 in
theorem lifted (os : Os) (started : os.Started) (H : Type) (enc : TypeId × Value → H) :
    ReturnsInHanded {} Try.checked os 6 .any (Rows.elderKnownSpec.pre6 enc Try.prog Try.f6 Rows.elderKnownRow.domain false) (Rows.elderKnownSpec.post enc Try.prog Try.f6 false true false false) := by
  refine returnsInHanded_of_change_sized (C := Try.checked) own started (by kernel_rfl) Try.func6
    (ChangeSpec.witness6 (enc := enc) (C := Try.checked) false ⟨#[], #[], []⟩ 8 (by kernel_rfl) (by kernel_rfl) (by kernel_rfl) (by kernel_rfl)) ?_
  intro W base args ds gs before hval0 hW hcnd hsz0 _
  have hsz : (DataW.weightsEach Try.prog (Try.f6.params.toList ++ Rows.elderKnownSpec.plain.varTypes Try.prog) (ds ++ gs)).all (· ≤ reachBytes) = true := hsz0
  have hval : ∀ (j : Nat) t v, Try.f6.params[j]? = some t → args[j]? = some v → Value.okWide Try.prog W .any base t v := hval0
  have hW' := hW
  obtain ⟨p, q, hA0, hV, rfl, hfz, hnd⟩ := hW
  have hA : DataW.TrodAll enc Try.prog W 0 (fun _ => true) true Try.f6.params.toList args.toList ds p := hA0
  rw [Try.params6] at hA hval hsz
  obtain ⟨rfl, rfl, rfl⟩ := trodAll_none hA
  obtain ⟨rfl, rfl⟩ := trodVars_none hV
  clear hA0 hval0 hsz0 hsz
  refine (calls W).mono fun e W' ⟨he, bel⟩ => ?_
  subst he
  exact ⟨_, rfl, _, _, _, [], _, [], hW', trodAll_mk1 (shut_bool Try.underlying4 _), trodAll_mk0, rfl, bel.frame _, fun h => by cases h⟩
theorem over : Rows.elderKnownRow.holds Try.pinned (OpenSpec.ofChange Rows.elderKnownSpec) :=
  OpenClaim.holds_of_wide 6 Try.f6 rfl rfl rfl rfl rfl rfl rfl ⟨rfl, rfl, rfl, rfl, rfl⟩ rfl rfl rfl rfl rfl (by kernel_rfl) Try.func6 (by kernel_rfl)
    (of_decide_eq_true (by kernel_rfl)) (by unfold Func.isWrapper; first | (rw [if_pos (by decide +kernel)]; kernel_rfl) | (rw [if_neg (by decide +kernel)]; exact ⟨rfl, rfl⟩))
    (fun os started H enc _ => lifted os started H enc)
theorem proved : Rows.ElderKnownSaid := over
#print axioms proved
end Go.Proofs.Ytlandojofjkeaaa.elderKnown
namespace Go.Proofs.Ytlandojofjkeaaa
/-- The row, under a short name, for the claim. -/
theorem elderKnown_holds : Rows.ElderKnownSaid := elderKnown.proved
end Go.Proofs.Ytlandojofjkeaaa
