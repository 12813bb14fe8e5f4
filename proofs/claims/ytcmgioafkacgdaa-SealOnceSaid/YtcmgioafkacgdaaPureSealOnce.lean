/-
  For every list of bytes the law SealOnce returns true: what was sealed twice is opened twice. No condition.
-/
import Derived.Test.YtcmgioafkacgdaaSealBase
namespace Go.Proofs.Ytcmgioafkacgdaa.Pure
open Go.RowKit Go.Proofs.Ytcmgioafkacgdaa.PA Go.Proofs.YtcmgioafkacgdaaW.PrintWords Go.Proofs.YtcmgioafkacgdaaW.PrintLast

theorem SealOnce : stadholderlaw17_SealOnce.Pure := by
  intro l _ hl hw
  have hb := wf_bytes hw
  refine Ev.rounds ?_
  unfold stadholderlaw17_SealOnce.f
  refine Ev.bind awake_is ?_
  simp only [if_true]
  by_cases c : (l.length : Int) > 1000
  · refine Ev.congr (fun k => ?_) (Ev.now _)
    rw [if_pos c]
  · have h : l.length ≤ 1000 := by omega
    have h1 : (sealed l).length ≤ 1000000 := by rw [sealed_len]; omega
    have h2 : (sealed (sealed l)).length ≤ 1000000 := by rw [sealed_len, sealed_len]; omega
    have b1 := sealed_bytes hb
    have b2 := sealed_bytes b1
    obtain ⟨p, e, hp⟩ : ∃ p e, opened l = (p, e) := ⟨_, _, rfl⟩
    have g : Ev (fun k => ((seal_Put.f k l).bind fun t164 => ((seal_Put.f k t164).bind fun t167 => ((seal_Get.f k t167).bind fun bt170 => ((seal_Get.f k bt170.1).bind fun bt174 => ((seal_Get.f k l).bind fun bt178 => (if bt170.2 = 0 then (if bt174.2 = 0 then (if (strOfNums bt174.1).toList = (strOfNums l).toList then (if bt178.2 = 0 then ((seal_Put.f k bt178.1).bind fun t182 => (some ((strOfNums t182).toList == (strOfNums l).toList))) else (some true)) else (some false)) else (some false)) else (some false)))))))) true := by
      refine Ev.bind (put_is (by omega)) ?_
      refine Ev.bind (put_is h1) ?_
      refine Ev.bind (get_is b2 h2) ?_
      rw [opened_sealed]
      refine Ev.bind (get_is b1 h1) ?_
      rw [opened_sealed]
      refine Ev.bind (get_is hb (by omega)) ?_
      simp only [if_true]
      rw [hp]
      rcases opened_ok hp with ⟨rfl, hs⟩ | ⟨rfl, rfl⟩
      · simp only [if_true]
        have hpl : p.length ≤ 1000000 := by have := congrArg List.length hs; rw [sealed_len] at this; omega
        refine Ev.bind (put_is hpl) ?_
        rw [hs]
        refine Ev.congr (fun k => ?_) (Ev.now _)
        simp
      · refine Ev.congr (fun k => ?_) (Ev.now _)
        simp
    refine Ev.congr (fun k => ?_) g
    rw [if_neg c]

end Go.Proofs.Ytcmgioafkacgdaa.Pure
