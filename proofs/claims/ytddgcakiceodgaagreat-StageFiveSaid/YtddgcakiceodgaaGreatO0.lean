/- The seat's 'awake' is told beside: it is true, and leaves the memory as it is. No condition. -/
import Derived.Test.YtddgcakiceodgaaGreatSy7
import Derived.Test.YtddgcakiceodgaaGreatFc
namespace Go.Proofs.YtddgcakiceodgaaGreat.EV
open Go Go.Proofs
set_option maxRecDepth 100000 in
theorem awake_run : okT ((ev Tryz.prog 4000).F 7 [] ⟨0, .nil⟩) = true := by decide +kernel
set_option maxRecDepth 100000 in
theorem no_gor : (Tryz.prog.funcs.toList.all fun fn => !(fn.name == "runtime.NumGoroutine")) = true := by decide +kernel
noncomputable def O0 : Orc := fun f => if f = 7 then some closedT else none
theorem O0_sound : SO Tryz.prog O0 := fun f g h args h0 v h' e => by
  unfold O0 at h
  split at h
  · rename_i q
    subst q
    cases h
    refine closed_sound (fun fn hf e => ?_) (by kernel_rfl) awake_run e
    have := List.all_eq_true.1 no_gor fn hf
    rw [e] at this
    simp at this
  · cases h
theorem awake_ev (h : Heap) : EF Tryz.prog O0 7 [] h = some (.bool true, h) := by
  rw [EF_eq]
  unfold stepO
  have : O0 7 = some closedT := by kernel_rfl
  rw [this]
  rfl
end Go.Proofs.YtddgcakiceodgaaGreat.EV
