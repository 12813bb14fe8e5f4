/-
  The examples of chapter 1 answer as told: the law WholeKnown returns true. No condition.
-/
import Derived.Test.YthaacidfpcljfaaPAx12
namespace Go.Proofs.Ythaacidfpcljfaa.Pure
open Go.RowKit Go.Proofs.Ythaacidfpcljfaa.PA Go.Proofs.YthaacidfpcljfaaW.PrintWords Go.Proofs.YthaacidfpcljfaaW.PrintLast

theorem WholeKnown : stadholderlaw1_WholeKnown.Pure := ⟨20, by decide +kernel⟩

end Go.Proofs.Ythaacidfpcljfaa.Pure
