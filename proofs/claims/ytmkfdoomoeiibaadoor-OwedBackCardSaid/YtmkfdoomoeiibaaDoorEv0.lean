/- EV, part 0, for a seat whose rows list tables: what the evaluator's base keeps of them. No condition. -/
import Derived.Test.YtmkfdoomoeiibaaDoorProg
import Derived.Lib.LaidTab
import Derived.Lib.ItoaNum
import Derived.KernelRfl
namespace Go.Proofs.YtmkfdoomoeiibaaDoor.EV
open Go Go.Proofs
noncomputable def tabG : Nat := 0 + 1
theorem gPow : Tryd.prog.globalNamed "internal/strconv.uint64pow10" = some 0 := by kernel_rfl
noncomputable def tabOK (w : World) : Prop := Lib.TabIs Tryd.prog w "internal/strconv.uint64pow10" .u64 Lib.pow10Tab
theorem tabOK_of {w w' : World} (h : ∀ k, k < tabG → w'.heap[k]? = w.heap[k]?) (t : tabOK w) : tabOK w' := by
  unfold tabOK Lib.TabIs World.var? at *
  rw [gPow] at *
  simp only [Option.bind_some] at *
  rw [h 0 (by decide)]
  exact t
noncomputable def TabW (w : World) : Prop := tabG ≤ w.heap.size ∧ tabOK w
end Go.Proofs.YtmkfdoomoeiibaaDoor.EV
