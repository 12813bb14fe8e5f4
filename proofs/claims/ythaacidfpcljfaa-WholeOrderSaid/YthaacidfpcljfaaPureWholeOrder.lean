/-
  For every four 64-bit numbers the law WholeOrder returns true: products are in order. No condition.
-/
import Derived.Test.YthaacidfpcljfaaWholeBase
namespace Go.Proofs.Ythaacidfpcljfaa.Pure
open Go.RowKit Go.Proofs.Ythaacidfpcljfaa.PA Go.Proofs.YthaacidfpcljfaaW.PrintWords Go.Proofs.YthaacidfpcljfaaW.PrintLast

theorem order_j0 {a b c d : Int} (ha : I64 a) (hb : I64 b) (hc : I64 c) (hd : I64 d) : Ev (fun k => stadholderlaw1_WholeOrder.j0 k a b c d (cmp3 (a * b) (c * d)) false) true := by
  refine Ev.step (f := fun k => some true) (fun k => ?_) (Ev.now _)
  simp only [stadholderlaw1_WholeOrder.j0, CmpMul_is hc hd ha hb, CmpMul_is hb ha hc hd, CmpMul_is ha hb hb ha, Option.bind_some]
  rw [if_neg (by simp), Int.mul_comm b a, if_pos, if_pos rfl]
  · unfold cmp3
    simp
  · unfold cmp3 wrap64
    repeat' split
    all_goals omega
theorem WholeOrder : stadholderlaw1_WholeOrder.Pure := by
  intro a b c d wa wb wc wd
  have ha := wf_i64 wa
  have hb := wf_i64 wb
  have hc := wf_i64 wc
  have hd := wf_i64 wd
  refine Ev.rounds ?_
  unfold stadholderlaw1_WholeOrder.f
  refine Ev.bind awake_is ?_
  simp only [if_true]
  rw [CmpMul_is ha hb hc hd, Mul_is ha hb, Mul_is hc hd]
  simp only [Option.bind_some]
  refine Ev.congr (fun k => ?_) (order_j0 ha hb hc hd)
  unfold fit
  by_cases p : -9223372036854775808 ≤ a * b ∧ a * b ≤ 9223372036854775807
  · rw [if_pos p]
    by_cases q : -9223372036854775808 ≤ c * d ∧ c * d ≤ 9223372036854775807
    · rw [if_pos q]
      simp only [if_true]
      congr 1
      unfold cmp3
      by_cases r : a * b < c * d
      · simp [r]
      · by_cases s : a * b > c * d
        · simp [r, s]
        · simp [r, s]
    · rw [if_neg q]
      simp
  · rw [if_neg p]
    simp

end Go.Proofs.Ythaacidfpcljfaa.Pure
