/- What is told beside: the seat's 'awake'; sorting. No condition. -/
import Derived.Test.YtbbdhpjkibbnkaaSort2
import Derived.Test.YtbbdhpjkibbnkaaFc
namespace Go.Proofs.Ytbbdhpjkibbnkaa.EV
open Go Go.Proofs
set_option maxRecDepth 100000 in
theorem awake_run : okT ((ev Try.prog 4000).F 7 [] ⟨0, .nil⟩) = true := by decide +kernel
set_option maxRecDepth 100000 in
theorem no_gor : (Try.prog.funcs.toList.all fun fn => !(fn.name == "runtime.NumGoroutine")) = true := by decide +kernel
theorem hN : ∀ fn ∈ Try.prog.funcs.toList, fn.name ≠ "runtime.NumGoroutine" := fun fn hf e => by
  have := List.all_eq_true.1 no_gor fn hf
  rw [e] at this
  simp at this
theorem hmix : Try.prog.follows .mixedOrders = true := by kernel_rfl
noncomputable def O0 : Orc := fun f => if f = 7 then some closedT else if f = 45 then some sort2T else none
theorem O0_sound : SO Try.prog O0 := fun f g h args h0 v h' e => by
  unfold O0 at h
  split at h
  · rename_i q
    subst q
    cases h
    exact closed_sound hN hmix awake_run e
  · split at h
    · rename_i q
      subst q
      cases h
      exact sort2T_sound e
    · cases h
theorem awake_ev (h : Heap) : EF Try.prog O0 7 [] h = some (.bool true, h) := by
  rw [EF_eq]
  unfold stepO
  have : O0 7 = some closedT := by kernel_rfl
  rw [this]
  rfl
end Go.Proofs.Ytbbdhpjkibbnkaa.EV
