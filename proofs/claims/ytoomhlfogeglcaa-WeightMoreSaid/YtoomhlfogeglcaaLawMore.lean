/- WeightMore, WeightOffs, plainly. No condition. -/
import Derived.Test.YtoomhlfogeglcaaWt2
namespace Go.Proofs.Ytoomhlfogeglcaa.EV
open Go Go.Proofs
set_option linter.unusedVariables false
set_option linter.unusedSimpArgs false
set_option maxRecDepth 100000
set_option pp.deepTerms false
set_option pp.deepTerms.threshold 20
theorem i64_wf {z : Int} (h : (Lit.int .i64 z).wf = true) : -9223372036854775808 ≤ z ∧ z < 9223372036854775808 := by
  have : (Lit.int .i64 z).wf = (decide (IntKind.i64.min ≤ z) && decide (z ≤ IntKind.i64.max)) := rfl
  rw [this] at h
  simp only [Bool.and_eq_true, decide_eq_true_eq] at h
  have e1 : IntKind.i64.min = -9223372036854775808 := rfl
  have e2 : IntKind.i64.max = 9223372036854775807 := rfl
  omega
theorem law_WeightOffs (h : Heap) (w : Int) (ww : (Lit.int .i64 w).wf = true) (t : Int) (wt : (Lit.int .i64 t).wf = true) (n : Int) (wn : (Lit.int .i64 n).wf = true) :
    WPo (EF Try.prog O0 7 [.int .i64 w, .int .i64 t, .int .i64 n] h) fun q => q.1 = .bool true := by
  have hw := i64_wf ww
  have ht := i64_wf wt
  have hn := i64_wf wn
  rw [EF_body (O := O0) (by kernel_rfl) Try.func7 rfl (rs := [.tmp 6]) rfl (bad := []) (by kernel_rfl) _ _ (m := 49) rfl]
  simp (maxSteps := 1000000) (disch := first | decide | omega | (simp only [go_sem]; first | done | omega)) only [go_sem, Int.reduceToNat, Nat.reduceMul, Nat.reduceAdd, Nat.reduceSub, ↓EU_region, ↓EU_draw, awake_ev]
  by_cases c : 1 ≤ w ∧ w ≤ 20 ∧ w ≤ t ∧ t ≤ 1280 ∧ 0 ≤ n ∧ n ≤ 1099511627776
  · obtain ⟨c1, c2, c3, c4, c5, c6⟩ := c
    have hm := wmay_of ⟨c1, c2, c3, c4, c5⟩
    have ho := offR_share hm c6
    have he := off_ev w t n (shareR w t n) h
    rw [ho.1] at he
    have hs := share_ev w t n h hw ht hn
    have e1 : decide (-(n * w % t) ≤ 0) = true := decide_eq_true (by omega)
    have hwn : wrapF .i64 (0 - t) = -t := by rw [wrap64 (by omega)]; omega
    have e2 : decide (-t < -(n * w % t)) = true := decide_eq_true (by omega)
    simp (maxSteps := 1000000) (disch := first | decide | omega | (simp only [go_sem]; first | done | omega)) only [go_sem, Int.reduceToNat, Nat.reduceMul, Nat.reduceAdd, Nat.reduceSub, ↓EU_region, ↓EU_draw, dec_t, dec_f, hs, he, e1, hwn, e2]
  · repeat' (((repeat refine WPo_ob ?_); (first | refine WPo_cond (fun hb => ?_) (fun hb => ?_) | refine WPo_gard (fun hb => ?_) (fun hb => ?_) | refine WPo_gardT (fun hb => ?_) (fun hb => ?_)) <;> (try simp only [Bool.not_eq_true', Bool.not_eq_false'] at hb)) <;> (simp (maxSteps := 1000000) (disch := first | decide | omega | (simp only [go_sem]; first | done | omega)) only [go_sem, Int.reduceToNat, Nat.reduceMul, Nat.reduceAdd, Nat.reduceSub, ↓EU_region, ↓EU_draw, hb]))
    all_goals (exfalso; simp only [decide_eq_true_eq, decide_eq_false_iff_not] at *; omega)
theorem ediv_anti {s a b : Int} (hs : 0 ≤ s) (ha : 0 < a) (h : a ≤ b) : s / b ≤ s / a := by
  rw [Int.le_ediv_iff_mul_le ha]
  have h1 : s / b * b ≤ s := Int.ediv_mul_le _ (by omega)
  have h2 := Int.mul_le_mul_of_nonneg_left h (Int.ediv_nonneg hs (by omega : 0 ≤ b))
  omega
theorem law_WeightMore (h : Heap) (w : Int) (ww : (Lit.int .i64 w).wf = true) (v : Int) (wv : (Lit.int .i64 v).wf = true) (t : Int) (wt : (Lit.int .i64 t).wf = true) (n : Int) (wn : (Lit.int .i64 n).wf = true) (m : Int) (wm : (Lit.int .i64 m).wf = true) :
    WPo (EF Try.prog O0 6 [.int .i64 w, .int .i64 v, .int .i64 t, .int .i64 n, .int .i64 m] h) fun q => q.1 = .bool true := by
  have hw := i64_wf ww
  have hv := i64_wf wv
  have ht := i64_wf wt
  have hn := i64_wf wn
  have hm' := i64_wf wm
  rw [EF_body (O := O0) (by kernel_rfl) Try.func6 rfl (rs := [.tmp 10]) rfl (bad := []) (by kernel_rfl) _ _ (m := 77) rfl]
  simp (maxSteps := 1000000) (disch := first | decide | omega | (simp only [go_sem]; first | done | omega)) only [go_sem, Int.reduceToNat, Nat.reduceMul, Nat.reduceAdd, Nat.reduceSub, ↓EU_region, ↓EU_draw, awake_ev]
  by_cases c : 1 ≤ w ∧ w ≤ v ∧ v ≤ 20 ∧ v ≤ t ∧ t ≤ 1280 ∧ 0 ≤ n ∧ n ≤ m
  · obtain ⟨c1, c2, c3, c4, c5, c6, c7⟩ := c
    have m1 := wmay_of (w := w) (t := t) (n := n) (by omega)
    have m2 := wmay_of (w := v) (t := t) (n := n) (by omega)
    have m3 := wmay_of (w := w) (t := t) (n := m) (by omega)
    have s1 := share_ev w t n h hw ht hn
    have s2 := share_ev v t n h hv ht hn
    have s3 := share_ev w t m h hw ht hm'
    have e1 : decide (shareR w t n ≤ shareR v t n) = true := by
      unfold shareR
      rw [m1, m2, if_pos rfl, if_pos rfl]
      exact decide_eq_true (Int.ediv_le_ediv (by omega) (Int.mul_le_mul_of_nonneg_left c2 c6))
    have e2 : decide (shareR w t n ≤ shareR w t m) = true := by
      unfold shareR
      rw [m1, m3, if_pos rfl, if_pos rfl]
      exact decide_eq_true (Int.ediv_le_ediv (by omega) (Int.mul_le_mul_of_nonneg_right c7 (by omega)))
    have e3 : decide (shareR w t n ≤ n) = true := by
      unfold shareR
      rw [m1, if_pos rfl]
      exact decide_eq_true (mdR_may m1 (by omega)).2.2
    have e4 : decide (wstep v ≤ wstep w) = true := by
      unfold wstep
      have g1 : wgood v = true := by unfold wgood; simp; omega
      have g2 : wgood w = true := by unfold wgood; simp; omega
      rw [g1, g2, if_pos rfl, if_pos rfl, Int.tdiv_eq_ediv_of_nonneg (by decide), Int.tdiv_eq_ediv_of_nonneg (by decide)]
      exact decide_eq_true (ediv_anti (by decide) (by omega) c2)
    simp (maxSteps := 1000000) (disch := first | decide | omega | (simp only [go_sem]; first | done | omega)) only [go_sem, Int.reduceToNat, Nat.reduceMul, Nat.reduceAdd, Nat.reduceSub, ↓EU_region, ↓EU_draw, dec_t, dec_f, s1, s2, s3, wstep_ev, e1, e2, e3, e4]
  · repeat' (((repeat refine WPo_ob ?_); (first | refine WPo_cond (fun hb => ?_) (fun hb => ?_) | refine WPo_gard (fun hb => ?_) (fun hb => ?_) | refine WPo_gardT (fun hb => ?_) (fun hb => ?_)) <;> (try simp only [Bool.not_eq_true', Bool.not_eq_false'] at hb)) <;> (simp (maxSteps := 1000000) (disch := first | decide | omega | (simp only [go_sem]; first | done | omega)) only [go_sem, Int.reduceToNat, Nat.reduceMul, Nat.reduceAdd, Nat.reduceSub, ↓EU_region, ↓EU_draw, hb]))
    all_goals (exfalso; simp only [decide_eq_true_eq, decide_eq_false_iff_not] at *; omega)
end Go.Proofs.Ytoomhlfogeglcaa.EV
