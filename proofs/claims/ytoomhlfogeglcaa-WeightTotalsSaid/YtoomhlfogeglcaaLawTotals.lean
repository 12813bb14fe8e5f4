/- WeightTotals, plainly. No condition. -/
import Derived.Test.YtoomhlfogeglcaaWt1
namespace Go.Proofs.Ytoomhlfogeglcaa.EV
open Go Go.Proofs
set_option linter.unusedVariables false
set_option linter.unusedSimpArgs false
set_option maxRecDepth 100000
set_option pp.deepTerms false
set_option pp.deepTerms.threshold 20
theorem tot_app (a b : List Int) : tot (a ++ b) = if (tot a).2 && (tot b).2 && decide (a.length + b.length ≤ 64) then ((tot a).1 + (tot b).1, true) else (0, false) := by
  unfold tot
  rw [List.all_append, List.length_append, sumI_app]
  cases ha : a.all wgood <;> cases hb : b.all wgood <;> by_cases h1 : a.length ≤ 64 <;> by_cases h2 : b.length ≤ 64 <;> by_cases h3 : a.length + b.length ≤ 64 <;> simp [h1, h2, h3] <;> omega
theorem tot_range (l : List Int) : 0 ≤ (tot l).1 ∧ (tot l).1 ≤ 1280 := by
  unfold tot
  split
  · rename_i q
    simp only [Bool.and_eq_true, decide_eq_true_eq] at q
    have := sumI_good q.1
    dsimp only
    omega
  · exact ⟨by decide, by decide⟩
theorem law_WeightTotals (h : Heap) (sa : Value) (la : List Int) (ha : SL (intE .i64) 1 h sa la) (wa : ∀ z ∈ la, (Lit.int .i64 z).wf = true) (sb : Value) (lb : List Int) (hb : SL (intE .i64) 1 h sb lb) (wb : ∀ z ∈ lb, (Lit.int .i64 z).wf = true) :
    WPo (EF Try.prog O0 8 [sa, sb] h) fun q => q.1 = .bool true := by
  rw [EF_body (O := O0) (by kernel_rfl) Try.func8 rfl (rs := [.tmp 4]) rfl (bad := []) (by kernel_rfl) _ _ (m := 74) rfl]
  obtain ⟨aa, ka, hv⟩ := ha.val
  subst hv
  obtain ⟨ab, kb, hv⟩ := hb.val
  subst hv
  simp (maxSteps := 1000000) (disch := first | decide | omega | (simp only [go_sem]; first | done | omega)) only [go_sem, Int.reduceToNat, Nat.reduceMul, Nat.reduceAdd, Nat.reduceSub, ↓EU_region, ↓EU_draw, awake_ev]
  ((repeat refine WPo_ob ?_); (first | refine WPo_cond (fun b1 => ?_) (fun b1 => ?_) | refine WPo_gard (fun b1 => ?_) (fun b1 => ?_) | refine WPo_gardT (fun b1 => ?_) (fun b1 => ?_)) <;> (try simp only [Bool.not_eq_true', Bool.not_eq_false'] at b1))
  · have b1' := b1
    simp only [decide_eq_false_iff_not] at b1'
    simp (maxSteps := 1000000) (disch := first | decide | omega | (simp only [go_sem]; first | done | omega)) only [go_sem, Int.reduceToNat, Nat.reduceMul, Nat.reduceAdd, Nat.reduceSub, ↓EU_region, ↓EU_draw, b1]
    ((repeat refine WPo_ob ?_); (first | refine WPo_cond (fun b2 => ?_) (fun b2 => ?_) | refine WPo_gard (fun b2 => ?_) (fun b2 => ?_) | refine WPo_gardT (fun b2 => ?_) (fun b2 => ?_)) <;> (try simp only [Bool.not_eq_true', Bool.not_eq_false'] at b2))
    · simp (maxSteps := 1000000) (disch := first | decide | omega | (simp only [go_sem]; first | done | omega)) only [go_sem, Int.reduceToNat, Nat.reduceMul, Nat.reduceAdd, Nat.reduceSub, ↓EU_region, ↓EU_draw, b2]
    · have b2' := b2
      simp only [decide_eq_false_iff_not] at b2'
      have ta := total_ev la _ h ha (by omega)
      have tb := total_ev lb _ h hb (by omega)
      simp (maxSteps := 1000000) (disch := first | decide | omega | (simp only [go_sem]; first | done | omega)) only [go_sem, Int.reduceToNat, Nat.reduceMul, Nat.reduceAdd, Nat.reduceSub, ↓EU_region, ↓EU_draw, b2, ta, tb]
      repeat refine WPo_ob ?_
      refine append_own (e := intE .i64) (h0 := h) (l := []) (l' := la) fc_ap_27_27 (fun _ => rfl) (by decide) i64_scal ((Ext.refl h).push _) (OW.lit i64_len h []) (Fresh.mk _ _ _ (Nat.le_refl _)) (ha.ext ((Ext.refl h).push _)) (by simp; omega) (by simp; omega) fun v1 h1 o1 f1 x1 _ _ => ?_
      simp (maxSteps := 1000000) (disch := first | decide | omega | (simp only [go_sem]; first | done | omega)) only [go_sem, Int.reduceToNat, Nat.reduceMul, Nat.reduceAdd, Nat.reduceSub, ↓EU_region, ↓EU_draw]
      repeat refine WPo_ob ?_
      refine append_own (e := intE .i64) (h0 := h) (l := la) (l' := lb) fc_ap_27_27 (fun _ => rfl) (by decide) i64_scal x1 o1 f1 (hb.ext x1) (by omega) (by omega) fun v2 h2 o2 f2 x2 _ _ => ?_
      have tc := total_ev (la ++ lb) _ h2 o2.sl (by rw [List.length_append]; omega)
      simp (maxSteps := 1000000) (disch := first | decide | omega | (simp only [go_sem]; first | done | omega)) only [go_sem, Int.reduceToNat, Nat.reduceMul, Nat.reduceAdd, Nat.reduceSub, ↓EU_region, ↓EU_draw, tc]
      rw [tot_app]
      have hlen : (decide ((la.length : Int) + lb.length ≤ 64)) = decide (la.length + lb.length ≤ 64) := by rw [decide_eq_decide]; omega
      have hwl : wrapF .i64 ((la.length : Int) + lb.length) = (la.length : Int) + lb.length := wrap64 (by omega)
      have hsa : 0 ≤ (tot la).1 ∧ (tot la).1 ≤ 1280 := tot_range la
      have hsb : 0 ≤ (tot lb).1 ∧ (tot lb).1 ≤ 1280 := tot_range lb
      have hws : wrapF .i64 ((tot la).1 + (tot lb).1) = (tot la).1 + (tot lb).1 := wrap64 (by omega)
      cases h1' : (tot la).2 with
      | false =>
        simp only [Bool.false_and, Bool.and_false, Bool.true_and, Bool.and_self, Bool.false_eq_true, if_false, if_true]
        simp (maxSteps := 1000000) (disch := first | decide | omega | (simp only [go_sem]; first | done | omega)) only [go_sem, Int.reduceToNat, Nat.reduceMul, Nat.reduceAdd, Nat.reduceSub, ↓EU_region, ↓EU_draw, dec_t, dec_f, h1']
      | true =>
        cases h2' : (tot lb).2 with
        | false =>
          simp only [Bool.false_and, Bool.and_false, Bool.true_and, Bool.and_self, Bool.false_eq_true, if_false, if_true]
          simp (maxSteps := 1000000) (disch := first | decide | omega | (simp only [go_sem]; first | done | omega)) only [go_sem, Int.reduceToNat, Nat.reduceMul, Nat.reduceAdd, Nat.reduceSub, ↓EU_region, ↓EU_draw, dec_t, dec_f, h1', h2']
        | true =>
          cases h3' : decide (la.length + lb.length ≤ 64) with
          | false =>
            simp only [Bool.false_and, Bool.and_false, Bool.true_and, Bool.and_self, Bool.false_eq_true, if_false, if_true]
            simp (maxSteps := 1000000) (disch := first | decide | omega | (simp only [go_sem]; first | done | omega)) only [go_sem, Int.reduceToNat, Nat.reduceMul, Nat.reduceAdd, Nat.reduceSub, ↓EU_region, ↓EU_draw, dec_t, dec_f, h1', h2', hlen, h3', hwl, hws]
          | true =>
            simp only [Bool.false_and, Bool.and_false, Bool.true_and, Bool.and_self, Bool.false_eq_true, if_false, if_true]
            simp (maxSteps := 1000000) (disch := first | decide | omega | (simp only [go_sem]; first | done | omega)) only [go_sem, Int.reduceToNat, Nat.reduceMul, Nat.reduceAdd, Nat.reduceSub, ↓EU_region, ↓EU_draw, dec_t, dec_f, h1', h2', hlen, h3', hwl, hws]
  · simp (maxSteps := 1000000) (disch := first | decide | omega | (simp only [go_sem]; first | done | omega)) only [go_sem, Int.reduceToNat, Nat.reduceMul, Nat.reduceAdd, Nat.reduceSub, ↓EU_region, ↓EU_draw, b1]
end Go.Proofs.Ytoomhlfogeglcaa.EV
