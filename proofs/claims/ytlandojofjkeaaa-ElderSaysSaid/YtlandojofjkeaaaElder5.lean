/- Contracts: elder's Two (what it asks of items). No condition. -/
import Derived.Test.YtlandojofjkeaaaElder4
import Derived.Test.YtlandojofjkeaaaQuo
namespace Go.Proofs.Ytlandojofjkeaaa.EV
open Go Go.Proofs
set_option linter.unusedVariables false
set_option linter.unusedSimpArgs false
set_option maxRecDepth 100000
set_option pp.deepTerms false
set_option pp.deepTerms.threshold 20
noncomputable def scl (x : Item) : Int := x.lag.tdiv 232792560
noncomputable def odd2 (x : Item) : Bool := decide (65535 < x.id) || (!decide (scl x * 232792560 = x.lag) || !decide (scl x = wrapF .i32 (scl x)))
theorem odd2_ev (x : Item) (h : Heap) (hx : imay x = true) : Pu (EF Try.prog O0 37 [.agg ⟨itemE x⟩] h) h (.bool (odd2 x)) := by
  have fx := imay_facts hx
  have hq := bin_quo Try.prog 2 (.tmp 5) (.const (.int .i64 232792560)) .i64 x.lag 232792560 (by decide)
  have hs : scl x = x.lag.tdiv 232792560 := rfl
  have h1 : -1125999906842624 ≤ scl x * 232792560 ∧ scl x * 232792560 ≤ 1125999906842624 := by
    rw [hs]
    have := Int.tdiv_mul_add_tmod x.lag 232792560
    have k1 := Int.tmod_lt_of_pos x.lag (show (0 : Int) < 232792560 by decide)
    have k2 := Int.lt_tmod_of_pos x.lag (show (0 : Int) < 232792560 by decide)
    omega
  have hw1 : wrapF .i64 (x.lag.tdiv 232792560) = scl x := wrap64 (by omega)
  have hw2 : wrapF .i64 (scl x * 232792560) = scl x * 232792560 := wrap64 (by omega)
  have hw3 : wrapF .i64 (wrapF .i32 (scl x)) = wrapF .i32 (scl x) := wrap64 (by have := wrap_i32 (scl x); omega)
  rw [hw1] at hq
  unfold Pu odd2
  rw [EF_body (O := O0) (by kernel_rfl) Try.func37 rfl (rs := [.tmp 2]) rfl (bad := []) (by kernel_rfl) _ _ (m := 24) rfl]
  simp (maxSteps := 1000000) (disch := first | decide | omega | (simp only [go_sem]; first | done | omega)) only [go_sem, Int.reduceToNat, Nat.reduceMul, Nat.reduceAdd, Nat.reduceSub, ↓EU_region, ↓EU_draw, hq, hw2, hw3]
  repeat' (((repeat refine WPo_ob ?_); (first | refine WPo_cond (fun hb => ?_) (fun hb => ?_) | refine WPo_gard (fun hb => ?_) (fun hb => ?_) | refine WPo_gardT (fun hb => ?_) (fun hb => ?_)) <;> (try simp only [Bool.not_eq_true', Bool.not_eq_false'] at hb)) <;> (simp (maxSteps := 1000000) (disch := first | decide | omega | (simp only [go_sem]; first | done | omega)) only [go_sem, Int.reduceToNat, Nat.reduceMul, Nat.reduceAdd, Nat.reduceSub, ↓EU_region, ↓EU_draw, hb, hq, hw2, hw3]))
  all_goals exact ⟨by simp [*], (Ext.refl h).push _⟩
end Go.Proofs.Ytlandojofjkeaaa.EV
