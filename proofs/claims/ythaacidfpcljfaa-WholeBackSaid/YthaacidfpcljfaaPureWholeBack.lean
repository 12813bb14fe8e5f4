/-
  For every two 64-bit numbers the law WholeBack returns true: what was added is taken away again, what was multiplied is divided again. No condition.
-/
import Derived.Test.YthaacidfpcljfaaWholeBase
namespace Go.Proofs.Ythaacidfpcljfaa.Pure
open Go.RowKit Go.Proofs.Ythaacidfpcljfaa.PA Go.Proofs.YthaacidfpcljfaaW.PrintWords Go.Proofs.YthaacidfpcljfaaW.PrintLast

theorem fit_in {v : Int} (h : I64 v) : fit v = (v, true) := by unfold fit; exact if_pos h
theorem fit_out {v : Int} (h : ¬ I64 v) : fit v = (0, false) := by unfold fit; exact if_neg h
theorem back_j0 {a b : Int} (ha : I64 a) (hb : I64 b) : Ev (fun k => stadholderlaw1_WholeBack.j0 k a b (fit (a + b)).1 (fit (a + b)).2) true := by
  have e1 : b + a = a + b := Int.add_comm _ _
  have e2 : b * a = a * b := Int.mul_comm _ _
  have last : Ev (fun k => stadholderlaw1_WholeBack.j1 k a b (fit (a + b)).1 (fit (a + b)).2 (fit (a * b)).1 (fit (a * b)).2 false) true := by
    refine Ev.step (f := fun k => some true) (fun k => ?_) (Ev.now _)
    simp only [stadholderlaw1_WholeBack.j1, Add_is hb ha, Mul_is hb ha, e1, e2]
    simp
  by_cases c : I64 (a * b)
  · by_cases d : b = 0
    · refine Ev.step (fun k => ?_) last
      simp only [stadholderlaw1_WholeBack.j0, Mul_is ha hb]
      simp [d]
    · have h2 : Ev (fun k => stadholderlaw1_WholeBack.j1 k a b (fit (a + b)).1 (fit (a + b)).2 (fit (a * b)).1 (fit (a * b)).2 true) true := by
        refine Ev.step (f := fun k => stadholderlaw1_WholeBack.j2 k a b (fit (a + b)).1 (fit (a + b)).2 (fit (a * b)).1 (fit (a * b)).2 false) (fun k => ?_) ?_
        · simp only [stadholderlaw1_WholeBack.j1, fit_in c, MulDiv_back k ha hb c d]
          simp
        · refine Ev.step (f := fun k => some true) (fun k => ?_) (Ev.now _)
          simp only [stadholderlaw1_WholeBack.j2, Add_is hb ha, Mul_is hb ha, e1, e2]
          simp
      refine Ev.step (fun k => ?_) h2
      simp only [stadholderlaw1_WholeBack.j0, Mul_is ha hb, fit_in c]
      simp [bne_iff_ne.mpr d]
  · refine Ev.step (fun k => ?_) last
    simp only [stadholderlaw1_WholeBack.j0, Mul_is ha hb, fit_out c]
    simp
theorem WholeBack : stadholderlaw1_WholeBack.Pure := by
  intro a b wa wb
  have ha := wf_i64 wa
  have hb := wf_i64 wb
  refine Ev.rounds ?_
  unfold stadholderlaw1_WholeBack.f
  refine Ev.bind awake_is ?_
  simp only [if_true]
  rw [Add_is ha hb]
  simp only [Option.bind_some]
  by_cases c : I64 (a + b)
  · refine Ev.congr (fun k => ?_) (back_j0 ha hb)
    rw [fit_in c]
    simp only [if_true]
    rw [Sub_is c hb, Int.add_sub_cancel, fit_in ha]
    simp
  · refine Ev.congr (fun k => ?_) (back_j0 ha hb)
    rw [fit_out c]
    simp

end Go.Proofs.Ythaacidfpcljfaa.Pure
