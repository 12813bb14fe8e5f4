/- OwedKnown, plainly: closed; the evaluator, with what is told beside, run by the kernel. No condition. -/
import Derived.Test.YtmkfdoomoeiibaaDoorO0
namespace Go.Proofs.YtmkfdoomoeiibaaDoor.EV
open Go Go.Proofs
set_option maxRecDepth 100000 in
theorem known_run : okT ((evq Tryd.prog O0 4000).F 6 [] ⟨0, .nil⟩) = true := by decide +kernel
theorem law_OwedKnown (_h : Heap) : WPo (EF Tryd.prog O0 6 [] ⟨0, .nil⟩) fun q => q.1 = .bool true := by
  obtain ⟨h2, hr⟩ := okT_inv known_run
  exact ⟨_, EF_iff.2 ⟨_, hr⟩, rfl⟩
end Go.Proofs.YtmkfdoomoeiibaaDoor.EV
