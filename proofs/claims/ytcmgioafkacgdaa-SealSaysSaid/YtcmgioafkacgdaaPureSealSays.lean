/-
  For every list of bytes the law SealSays returns true: package seal and its reference answer alike. No condition.
-/
import Derived.Test.YtcmgioafkacgdaaSealBase
namespace Go.Proofs.Ytcmgioafkacgdaa.Pure
open Go.RowKit Go.Proofs.Ytcmgioafkacgdaa.PA Go.Proofs.YtcmgioafkacgdaaW.PrintWords Go.Proofs.YtcmgioafkacgdaaW.PrintLast

theorem SealSays : stadholderlaw17_SealSays.Pure := by
  intro l _ hl hw
  have hb := wf_bytes hw
  refine Ev.rounds ?_
  unfold stadholderlaw17_SealSays.f
  refine Ev.bind awake_is ?_
  simp only [if_true]
  by_cases c : (l.length : Int) > 2000
  · refine Ev.congr (fun k => ?_) (Ev.now _)
    rw [if_pos c]
  · have h : l.length ≤ 1000000 := by omega
    have g : Ev (fun k => (seal_Get.f k l).bind fun bt147 => ((stadholderref16_Open.f k l).bind fun bt151 => ((seal_Of.f k l).bind fun t155 => ((stadholderref16_Crc.f k l).bind fun t156 => (if t155 = t156 then ((seal_Put.f k l).bind fun t157 => ((stadholderref16_Seal.f k l).bind fun t160 => (if (strOfNums t157).toList = (strOfNums t160).toList then (if bt147.2 = bt151.2 then (some ((strOfNums bt147.1).toList == (strOfNums bt151.1).toList)) else (some false)) else (some false)))) else (some false)))))) true := by
      refine Ev.bind (get_is hb h) ?_
      refine Ev.bind (open_is hb h) ?_
      refine Ev.bind (of_is l (by omega)) ?_
      refine Ev.bind (crc_is l (by omega)) ?_
      simp only [if_true]
      refine Ev.bind (put_is h) ?_
      refine Ev.bind (seal_is h) ?_
      refine Ev.congr (fun k => ?_) (Ev.now _)
      simp
    refine Ev.congr (fun k => ?_) g
    rw [if_neg c]

end Go.Proofs.Ytcmgioafkacgdaa.Pure
