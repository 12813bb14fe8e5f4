/-
  The examples of chapter 17 answer as told: the law SealKnown returns true.
-/
import Derived.Test.YtcmgioafkacgdaaSealBase
namespace Go.Proofs.Ytcmgioafkacgdaa.Pure
open Go.RowKit Go.Proofs.Ytcmgioafkacgdaa.PA Go.Proofs.YtcmgioafkacgdaaW.PrintWords Go.Proofs.YtcmgioafkacgdaaW.PrintLast

theorem SealKnown : stadholderlaw17_SealKnown.Pure := ⟨400, by decide +kernel⟩

end Go.Proofs.Ytcmgioafkacgdaa.Pure
