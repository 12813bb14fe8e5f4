/- Contracts: weight.may, Share, Off. No condition. -/
import Derived.Test.YtoomhlfogeglcaaWt1
import Derived.Test.YtoomhlfogeglcaaWide4
namespace Go.Proofs.Ytoomhlfogeglcaa.EV
open Go Go.Proofs
set_option linter.unusedVariables false
set_option linter.unusedSimpArgs false
set_option maxRecDepth 100000
set_option pp.deepTerms false
set_option pp.deepTerms.threshold 20
noncomputable def wmay (w t n : Int) : Bool := wgood w && (decide (w ≤ t) && (decide (t ≤ 1280) && decide (0 ≤ n)))
theorem wmay_facts {w t n : Int} (h : wmay w t n = true) : 1 ≤ w ∧ w ≤ 20 ∧ w ≤ t ∧ t ≤ 1280 ∧ 0 ≤ n := by
  unfold wmay at h
  simp only [Bool.and_eq_true, decide_eq_true_eq] at h
  have := wgood_facts h.1
  omega
theorem wmay_of {w t n : Int} (h : 1 ≤ w ∧ w ≤ 20 ∧ w ≤ t ∧ t ≤ 1280 ∧ 0 ≤ n) : wmay w t n = true := by
  unfold wmay wgood
  simp [h]
theorem wmay_ev (w t n : Int) (h : Heap) : EF Try.prog O0 23 [.int .i64 w, .int .i64 t, .int .i64 n] h = some (.bool (wmay w t n), h) := by
  have : WPo (EF Try.prog O0 23 [.int .i64 w, .int .i64 t, .int .i64 n] h) fun q => q = (.bool (wmay w t n), h) := by
    unfold wmay
    rw [EF_body (O := O0) (by kernel_rfl) Try.func23 rfl (rs := [.tmp 6]) rfl (bad := []) (by kernel_rfl) _ _ (m := 22) rfl]
    simp (maxSteps := 1000000) (disch := first | decide | omega | (simp only [go_sem]; first | done | omega)) only [go_sem, Int.reduceToNat, Nat.reduceMul, Nat.reduceAdd, Nat.reduceSub, ↓EU_region, ↓EU_draw, wGood_ev]
    cases hg : wgood w with
    | false =>
      simp (maxSteps := 1000000) (disch := first | decide | omega | (simp only [go_sem]; first | done | omega)) only [go_sem, Int.reduceToNat, Nat.reduceMul, Nat.reduceAdd, Nat.reduceSub, ↓EU_region, ↓EU_draw, wGood_ev, hg]
    | true =>
      simp (maxSteps := 1000000) (disch := first | decide | omega | (simp only [go_sem]; first | done | omega)) only [go_sem, Int.reduceToNat, Nat.reduceMul, Nat.reduceAdd, Nat.reduceSub, ↓EU_region, ↓EU_draw, wGood_ev, hg]
      repeat' (((repeat refine WPo_ob ?_); (first | refine WPo_cond (fun hb => ?_) (fun hb => ?_) | refine WPo_gard (fun hb => ?_) (fun hb => ?_) | refine WPo_gardT (fun hb => ?_) (fun hb => ?_)) <;> (try simp only [Bool.not_eq_true', Bool.not_eq_false'] at hb)) <;> (simp (maxSteps := 1000000) (disch := first | decide | omega | (simp only [go_sem]; first | done | omega)) only [go_sem, Int.reduceToNat, Nat.reduceMul, Nat.reduceAdd, Nat.reduceSub, ↓EU_region, ↓EU_draw, hb, wGood_ev, hg]))
      all_goals simp [*]
  obtain ⟨q, e, rfl⟩ := this
  exact e
theorem mdR_may {w t n : Int} (h : wmay w t n = true) (hn : n < 9223372036854775808) : mdR n w t = (n * w / t, true) ∧ 0 ≤ n * w / t ∧ n * w / t ≤ n := by
  obtain ⟨h1, h2, h3, h4, h5⟩ := wmay_facts h
  have en : absI n = n := by unfold absI; rw [if_neg (by omega)]
  have ew : absI w = w := by unfold absI; rw [if_neg (by omega)]
  have et : absI t = t := by unfold absI; rw [if_neg (by omega)]
  have hneg : negR n w t = false := by
    unfold negR
    rw [decide_eq_false (by omega : ¬ n < 0), decide_eq_false (by omega : ¬ w < 0), decide_eq_false (by omega : ¬ t < 0)]; rfl
  have hP : 0 ≤ n * w := Int.mul_nonneg h5 (by omega)
  have hle : n * w ≤ n * t := Int.mul_le_mul_of_nonneg_left h3 h5
  have hq0 : 0 ≤ n * w / t := Int.ediv_nonneg hP (by omega)
  have hq1 : n * w / t ≤ n := by
    have := Int.ediv_le_ediv (c := t) (by omega) hle
    rw [Int.mul_ediv_cancel _ (by omega : t ≠ 0)] at this
    exact this
  have hhi : n * w / 18446744073709551616 < t := by
    have : n * t < 18446744073709551616 * t := Int.mul_lt_mul_of_pos_right (by omega) (by omega)
    rw [Int.mul_comm 18446744073709551616 t] at this
    exact (Int.ediv_lt_iff_lt_mul (by decide)).2 (by omega)
  refine ⟨?_, hq0, hq1⟩
  unfold mdR
  rw [en, ew, et, hneg, if_neg (by omega), if_neg (by omega), Bool.false_and, if_neg (by decide), if_neg (by omega)]
noncomputable def shareR (w t n : Int) : Int := if wmay w t n then n * w / t else 0
theorem share_ev (w t n : Int) (h : Heap) (hw : -9223372036854775808 ≤ w ∧ w < 9223372036854775808) (ht : -9223372036854775808 ≤ t ∧ t < 9223372036854775808) (hn : -9223372036854775808 ≤ n ∧ n < 9223372036854775808) :
    EF Try.prog O0 13 [.int .i64 w, .int .i64 t, .int .i64 n] h = some (.int .i64 (shareR w t n), h) := by
  have : WPo (EF Try.prog O0 13 [.int .i64 w, .int .i64 t, .int .i64 n] h) fun q => q = (.int .i64 (shareR w t n), h) := by
    unfold shareR
    rw [EF_body (O := O0) (by kernel_rfl) Try.func13 rfl (rs := [.tmp 6]) rfl (bad := []) (by kernel_rfl) _ _ (m := 22) rfl]
    cases hg : wmay w t n with
    | false =>
      rw [if_neg (by decide)]
      simp (maxSteps := 1000000) (disch := first | decide | omega | (simp only [go_sem]; first | done | omega)) only [go_sem, Int.reduceToNat, Nat.reduceMul, Nat.reduceAdd, Nat.reduceSub, ↓EU_region, ↓EU_draw, wmay_ev, hg]
    | true =>
      have hm := mdR_may hg hn.2
      have he := muldiv_ev n w t h hn hw ht
      rw [hm.1] at he
      rw [if_pos rfl]
      simp (maxSteps := 1000000) (disch := first | decide | omega | (simp only [go_sem]; first | done | omega)) only [go_sem, Int.reduceToNat, Nat.reduceMul, Nat.reduceAdd, Nat.reduceSub, ↓EU_region, ↓EU_draw, wmay_ev, hg, he]
  obtain ⟨q, e, rfl⟩ := this
  exact e
noncomputable def offR (w t n g : Int) : Int := if wmay w t n then wrapF .i64 (wrapF .i64 (g * t) - wrapF .i64 (n * w)) else 0
theorem off_ev (w t n g : Int) (h : Heap) : EF Try.prog O0 14 [.int .i64 w, .int .i64 t, .int .i64 n, .int .i64 g] h = some (.int .i64 (offR w t n g), h) := by
  have : WPo (EF Try.prog O0 14 [.int .i64 w, .int .i64 t, .int .i64 n, .int .i64 g] h) fun q => q = (.int .i64 (offR w t n g), h) := by
    unfold offR
    rw [EF_body (O := O0) (by kernel_rfl) Try.func14 rfl (rs := [.tmp 8]) rfl (bad := []) (by kernel_rfl) _ _ (m := 21) rfl]
    cases hg : wmay w t n with
    | false =>
      rw [if_neg (by decide)]
      simp (maxSteps := 1000000) (disch := first | decide | omega | (simp only [go_sem]; first | done | omega)) only [go_sem, Int.reduceToNat, Nat.reduceMul, Nat.reduceAdd, Nat.reduceSub, ↓EU_region, ↓EU_draw, wmay_ev, hg]
    | true =>
      rw [if_pos rfl]
      simp (maxSteps := 1000000) (disch := first | decide | omega | (simp only [go_sem]; first | done | omega)) only [go_sem, Int.reduceToNat, Nat.reduceMul, Nat.reduceAdd, Nat.reduceSub, ↓EU_region, ↓EU_draw, wmay_ev, hg]
  obtain ⟨q, e, rfl⟩ := this
  exact e
/-- off by less than a tick, never above -/
theorem offR_share {w t n : Int} (h : wmay w t n = true) (hn : n ≤ 1099511627776) : offR w t n (shareR w t n) = -(n * w % t) ∧ 0 ≤ n * w % t ∧ n * w % t < t := by
  obtain ⟨h1, h2, h3, h4, h5⟩ := wmay_facts h
  have hm := mdR_may h (by omega)
  unfold offR shareR
  rw [h, if_pos rfl, if_pos rfl]
  have e1 := Int.mul_ediv_add_emod (n * w) t
  have e2 : t * (n * w / t) = n * w / t * t := Int.mul_comm _ _
  have r1 : 0 ≤ n * w % t := Int.emod_nonneg _ (by omega)
  have r2 : n * w % t < t := Int.emod_lt_of_pos _ (by omega)
  have hP : 0 ≤ n * w := Int.mul_nonneg h5 (by omega)
  have hle : n * w ≤ 1099511627776 * 20 := Int.mul_le_mul hn h2 (by omega) (by decide)
  have hq : 0 ≤ n * w / t * t := Int.mul_nonneg hm.2.1 (by omega)
  refine ⟨?_, r1, r2⟩
  rw [wrap64 (n := n * w / t * t) (by omega), wrap64 (n := n * w) (by omega), wrap64 (by omega)]
  omega
end Go.Proofs.Ytoomhlfogeglcaa.EV
