/- Contracts: the reference's weights: GoodWeight, Step, Total, fair, Share, Off. No condition. -/
import Derived.Test.YtoomhlfogeglcaaPt1
import Derived.Test.YtoomhlfogeglcaaBig9
namespace Go.Proofs.Ytoomhlfogeglcaa.EV
open Go Go.Proofs
set_option linter.unusedVariables false
set_option linter.unusedSimpArgs false
set_option maxRecDepth 100000
set_option pp.deepTerms false
set_option pp.deepTerms.threshold 20
theorem rgood_ev (a : Int) (h : Heap) : EF Try.prog O0 18 [.int .i64 a] h = some (.bool (wgood a), h) := by
  have : WPo (EF Try.prog O0 18 [.int .i64 a] h) fun q => q = (.bool (wgood a), h) := by
    rw [EF_body (O := O0) (by kernel_rfl) Try.func18 rfl (rs := [.tmp 2]) rfl (bad := []) (by kernel_rfl) _ _ (m := 9) rfl]
    simp (maxSteps := 1000000) (disch := first | decide | omega | (simp only [go_sem]; first | done | omega)) only [go_sem, Int.reduceToNat, Nat.reduceMul, Nat.reduceAdd, Nat.reduceSub, ↓EU_region, ↓EU_draw]
    repeat' (((repeat refine WPo_ob ?_); (first | refine WPo_cond (fun hb => ?_) (fun hb => ?_) | refine WPo_gard (fun hb => ?_) (fun hb => ?_) | refine WPo_gardT (fun hb => ?_) (fun hb => ?_)) <;> (try simp only [Bool.not_eq_true', Bool.not_eq_false'] at hb)) <;> (simp (maxSteps := 1000000) (disch := first | decide | omega | (simp only [go_sem]; first | done | omega)) only [go_sem, Int.reduceToNat, Nat.reduceMul, Nat.reduceAdd, Nat.reduceSub, ↓EU_region, ↓EU_draw, hb]))
    all_goals simp [wgood, *]
  obtain ⟨q, e, rfl⟩ := this
  exact e
theorem rstep_ev (a : Int) (h : Heap) : EF Try.prog O0 19 [.int .i64 a] h = some (.int .i64 (wstep a), h) := by
  have : WPo (EF Try.prog O0 19 [.int .i64 a] h) fun q => q = (.int .i64 (wstep a), h) := by
    unfold wstep
    rw [EF_body (O := O0) (by kernel_rfl) Try.func19 rfl (rs := [.tmp 2]) rfl (bad := []) (by kernel_rfl) _ _ (m := 8) rfl]
    cases hg : wgood a with
    | false =>
      rw [if_neg (by decide)]
      simp (maxSteps := 1000000) (disch := first | decide | omega | (simp only [go_sem]; first | done | omega)) only [go_sem, Int.reduceToNat, Nat.reduceMul, Nat.reduceAdd, Nat.reduceSub, ↓EU_region, ↓EU_draw, rgood_ev, hg]
    | true =>
      have hf := wgood_facts hg
      have hq := fun x y => bin_quo Try.prog 2 x y .i64 232792560 a (by omega)
      have hr : 0 ≤ (232792560 : Int).tdiv a ∧ (232792560 : Int).tdiv a ≤ 232792560 := by
        refine ⟨Int.tdiv_nonneg (by decide) (by omega), ?_⟩
        exact Int.tdiv_le_self _ (by decide)
      have hw : wrapF .i64 ((232792560 : Int).tdiv a) = (232792560 : Int).tdiv a := wrap64 (by omega)
      rw [if_pos rfl]
      simp (maxSteps := 1000000) (disch := first | decide | omega | (simp only [go_sem]; first | done | omega)) only [go_sem, Int.reduceToNat, Nat.reduceMul, Nat.reduceAdd, Nat.reduceSub, ↓EU_region, ↓EU_draw, rgood_ev, hg, hq, hw]
  obtain ⟨q, e, rfl⟩ := this
  exact e
theorem rfair_ev (w t n : Int) (h : Heap) : EF Try.prog O0 28 [.int .i64 w, .int .i64 t, .int .i64 n] h = some (.bool (wmay w t n), h) := by
  have : WPo (EF Try.prog O0 28 [.int .i64 w, .int .i64 t, .int .i64 n] h) fun q => q = (.bool (wmay w t n), h) := by
    unfold wmay
    rw [EF_body (O := O0) (by kernel_rfl) Try.func28 rfl (rs := [.tmp 6]) rfl (bad := []) (by kernel_rfl) _ _ (m := 22) rfl]
    simp (maxSteps := 1000000) (disch := first | decide | omega | (simp only [go_sem]; first | done | omega)) only [go_sem, Int.reduceToNat, Nat.reduceMul, Nat.reduceAdd, Nat.reduceSub, ↓EU_region, ↓EU_draw, rgood_ev]
    cases hg : wgood w with
    | false =>
      simp (maxSteps := 1000000) (disch := first | decide | omega | (simp only [go_sem]; first | done | omega)) only [go_sem, Int.reduceToNat, Nat.reduceMul, Nat.reduceAdd, Nat.reduceSub, ↓EU_region, ↓EU_draw, rgood_ev, hg]
    | true =>
      simp (maxSteps := 1000000) (disch := first | decide | omega | (simp only [go_sem]; first | done | omega)) only [go_sem, Int.reduceToNat, Nat.reduceMul, Nat.reduceAdd, Nat.reduceSub, ↓EU_region, ↓EU_draw, rgood_ev, hg]
      repeat' (((repeat refine WPo_ob ?_); (first | refine WPo_cond (fun hb => ?_) (fun hb => ?_) | refine WPo_gard (fun hb => ?_) (fun hb => ?_) | refine WPo_gardT (fun hb => ?_) (fun hb => ?_)) <;> (try simp only [Bool.not_eq_true', Bool.not_eq_false'] at hb)) <;> (simp (maxSteps := 1000000) (disch := first | decide | omega | (simp only [go_sem]; first | done | omega)) only [go_sem, Int.reduceToNat, Nat.reduceMul, Nat.reduceAdd, Nat.reduceSub, ↓EU_region, ↓EU_draw, hb, rgood_ev, hg]))
      all_goals simp [*]
  obtain ⟨q, e, rfl⟩ := this
  exact e
theorem rshare_ev (w t n : Int) (h : Heap) (hw : -9223372036854775808 ≤ w ∧ w < 9223372036854775808) (ht : -9223372036854775808 ≤ t ∧ t < 9223372036854775808) (hn : -9223372036854775808 ≤ n ∧ n < 9223372036854775808) :
    Pu (EF Try.prog O0 20 [.int .i64 w, .int .i64 t, .int .i64 n] h) h (.int .i64 (shareR w t n)) := by
  unfold Pu shareR
  rw [EF_body (O := O0) (by kernel_rfl) Try.func20 rfl (rs := [.tmp 6]) rfl (bad := []) (by kernel_rfl) _ _ (m := 22) rfl]
  cases hg : wmay w t n with
  | false =>
    rw [if_neg (by decide)]
    simp (maxSteps := 1000000) (disch := first | decide | omega | (simp only [go_sem]; first | done | omega)) only [go_sem, Int.reduceToNat, Nat.reduceMul, Nat.reduceAdd, Nat.reduceSub, ↓EU_region, ↓EU_draw, rfair_ev, hg]
    exact ⟨trivial, Ext.refl _⟩
  | true =>
    have hm := mdR_may hg hn.2
    have he := rmuldiv_ev n w t h hn hw ht
    rw [hm.1] at he
    rw [if_pos rfl]
    simp (maxSteps := 1000000) (disch := first | decide | omega | (simp only [go_sem]; first | done | omega)) only [go_sem, Int.reduceToNat, Nat.reduceMul, Nat.reduceAdd, Nat.reduceSub, ↓EU_region, ↓EU_draw, rfair_ev, hg]
    repeat refine WPo_ob ?_
    refine he.bind fun h1 x1 => ?_
    simp (maxSteps := 1000000) (disch := first | decide | omega | (simp only [go_sem]; first | done | omega)) only [go_sem, Int.reduceToNat, Nat.reduceMul, Nat.reduceAdd, Nat.reduceSub, ↓EU_region, ↓EU_draw]
    exact ⟨trivial, x1⟩
theorem roff_ev (w t n g : Int) (h : Heap) : EF Try.prog O0 21 [.int .i64 w, .int .i64 t, .int .i64 n, .int .i64 g] h = some (.int .i64 (offR w t n g), h) := by
  have : WPo (EF Try.prog O0 21 [.int .i64 w, .int .i64 t, .int .i64 n, .int .i64 g] h) fun q => q = (.int .i64 (offR w t n g), h) := by
    unfold offR
    rw [EF_body (O := O0) (by kernel_rfl) Try.func21 rfl (rs := [.tmp 8]) rfl (bad := []) (by kernel_rfl) _ _ (m := 21) rfl]
    cases hg : wmay w t n with
    | false =>
      rw [if_neg (by decide)]
      simp (maxSteps := 1000000) (disch := first | decide | omega | (simp only [go_sem]; first | done | omega)) only [go_sem, Int.reduceToNat, Nat.reduceMul, Nat.reduceAdd, Nat.reduceSub, ↓EU_region, ↓EU_draw, rfair_ev, hg]
    | true =>
      rw [if_pos rfl]
      simp (maxSteps := 1000000) (disch := first | decide | omega | (simp only [go_sem]; first | done | omega)) only [go_sem, Int.reduceToNat, Nat.reduceMul, Nat.reduceAdd, Nat.reduceSub, ↓EU_region, ↓EU_draw, rfair_ev, hg]
  obtain ⟨q, e, rfl⟩ := this
  exact e
theorem rtotal_ev (l : List Int) (s : Value) (h : Heap) (hs : SL (intE .i64) 1 h s l) (hl : l.length ≤ 1000) :
    EF Try.prog O0 17 [s] h = some (.tuple ⟨[.int .i64 (tot l).1, .bool (tot l).2]⟩, h) := by
  have : WPo (EF Try.prog O0 17 [s] h) fun q => q = (.tuple ⟨[.int .i64 (tot l).1, .bool (tot l).2]⟩, h) := by
    rw [EF_body (O := O0) (by kernel_rfl) Try.func17 rfl (rs := [.tmp 2, .tmp 3]) rfl (bad := []) (by kernel_rfl) _ _ (m := 28) rfl]
    obtain ⟨a, c, hv⟩ := hs.val
    subst hv
    simp (maxSteps := 1000000) (disch := first | decide | omega | (simp only [go_sem]; first | done | omega)) only [go_sem, Int.reduceToNat, Nat.reduceMul, Nat.reduceAdd, Nat.reduceSub, ↓EU_region, ↓EU_draw]
    repeat refine WPo_ob ?_
    refine (LP_rule (fun m st => ∃ (i : Nat) (tm : Fr), st = ⟨tm, h, []⟩ ∧ m = l.length - i ∧ i ≤ l.length ∧ Fr.get tm 0 = .slice a l.length c ∧ Fr.get tm 4 = .int .i64 (sumI (l.take i)) ∧ Fr.get tm 5 = .int .i64 i ∧ (l.take i).all wgood = true)
      (fun q => ∃ tm, q.2 = ⟨tm, h, []⟩ ∧ ((q.1 = .exit 0 ∧ Fr.get tm 0 = .slice a l.length c ∧ Fr.get tm 4 = .int .i64 (sumI l) ∧ l.all wgood = true) ∨ (q.1 = .ret ∧ tot l = (0, false) ∧ Fr.get tm 2 = .int .i64 0 ∧ Fr.get tm 3 = .bool false))) ?_ l.length _ _ ?_ ?_).mono ?_
    · rintro m _ ⟨i, tm, rfl, hm, hi, g0, g4, g5, hall⟩
      by_cases hq : i < l.length
      · have hmm : l.length - (i + 1) < m := by omega
        have d : decide ((i : Int) < (l.length : Int)) = true := decide_eq_true (by omega)
        have hwi : wrapF .i64 ((i : Int) + 1) = ((i + 1 : Nat) : Int) := by rw [wrap64 (by omega)]; rfl
        obtain ⟨x, hx⟩ : ∃ x, l[i]? = some x := ⟨_, List.getElem?_eq_getElem hq⟩
        obtain ⟨b, o, c', e, hb', hrd, hr⟩ := hs.at hx rfl
        cases e
        have hr0 := hr 0 _ rfl
        rw [add_z] at hr0
        cases hg : wgood x with
        | false =>
          have ht : tot l = (0, false) := by
            unfold tot
            rw [if_neg]
            simp only [Bool.and_eq_true, not_and]
            intro q
            have := List.all_eq_true.1 q x (List.mem_of_getElem? hx)
            rw [hg] at this; cases this
          simp (maxSteps := 1000000) (disch := first | decide | omega | (simp only [go_sem]; first | done | omega)) only [go_sem, Int.reduceToNat, Nat.reduceMul, Nat.reduceAdd, Nat.reduceSub, ↓EU_region, ↓EU_draw, g0, g4, g5, d, hr0, rgood_ev, hg]
          exact ⟨_, rfl, .inr ⟨trivial, ht, by simp (maxSteps := 1000000) (disch := first | decide | omega | (simp only [go_sem]; first | done | omega)) only [go_sem, Int.reduceToNat, Nat.reduceMul, Nat.reduceAdd, Nat.reduceSub, ↓EU_region, ↓EU_draw], by simp (maxSteps := 1000000) (disch := first | decide | omega | (simp only [go_sem]; first | done | omega)) only [go_sem, Int.reduceToNat, Nat.reduceMul, Nat.reduceAdd, Nat.reduceSub, ↓EU_region, ↓EU_draw]⟩⟩
        | true =>
          have hf := wgood_facts hg
          have hgd := sumI_good hall
          have hil : (l.take i).length = i := by rw [List.length_take]; omega
          rw [hil] at hgd
          have hnx : sumI (l.take (i + 1)) = sumI (l.take i) + x := by
            rw [List.take_add_one, hx, sumI_app]
            simp [sumI]
          have hw : wrapF .i64 (sumI (l.take i) + x) = sumI (l.take (i + 1)) := by rw [hnx]; exact wrap64 (by omega)
          have hna : (l.take (i + 1)).all wgood = true := by
            rw [List.take_add_one, hx, List.all_append, hall]
            simp [hg]
          simp (maxSteps := 1000000) (disch := first | decide | omega | (simp only [go_sem]; first | done | omega)) only [go_sem, Int.reduceToNat, Nat.reduceMul, Nat.reduceAdd, Nat.reduceSub, ↓EU_region, ↓EU_draw, g0, g4, g5, d, hr0, rgood_ev, hg, hw, hwi]
          exact ⟨l.length - (i + 1), hmm, i + 1, _, rfl, rfl, hq, by simp (maxSteps := 1000000) (disch := first | decide | omega | (simp only [go_sem]; first | done | omega)) only [go_sem, Int.reduceToNat, Nat.reduceMul, Nat.reduceAdd, Nat.reduceSub, ↓EU_region, ↓EU_draw, g0], by simp (maxSteps := 1000000) (disch := first | decide | omega | (simp only [go_sem]; first | done | omega)) only [go_sem, Int.reduceToNat, Nat.reduceMul, Nat.reduceAdd, Nat.reduceSub, ↓EU_region, ↓EU_draw], by simp (maxSteps := 1000000) (disch := first | decide | omega | (simp only [go_sem]; first | done | omega)) only [go_sem, Int.reduceToNat, Nat.reduceMul, Nat.reduceAdd, Nat.reduceSub, ↓EU_region, ↓EU_draw], hna⟩
      · have d : decide ((i : Int) < (l.length : Int)) = false := decide_eq_false (by omega)
        obtain rfl : i = l.length := by omega
        rw [List.take_length] at g4 hall
        simp (maxSteps := 1000000) (disch := first | decide | omega | (simp only [go_sem]; first | done | omega)) only [go_sem, Int.reduceToNat, Nat.reduceMul, Nat.reduceAdd, Nat.reduceSub, ↓EU_region, ↓EU_draw, g0, g5, d]
        exact ⟨_, rfl, .inl ⟨trivial, by simp (maxSteps := 1000000) (disch := first | decide | omega | (simp only [go_sem]; first | done | omega)) only [go_sem, Int.reduceToNat, Nat.reduceMul, Nat.reduceAdd, Nat.reduceSub, ↓EU_region, ↓EU_draw, g0], by simp (maxSteps := 1000000) (disch := first | decide | omega | (simp only [go_sem]; first | done | omega)) only [go_sem, Int.reduceToNat, Nat.reduceMul, Nat.reduceAdd, Nat.reduceSub, ↓EU_region, ↓EU_draw, g4], hall⟩⟩
    · exact ⟨0, _, rfl, rfl, Nat.zero_le _, by simp (maxSteps := 1000000) (disch := first | decide | omega | (simp only [go_sem]; first | done | omega)) only [go_sem, Int.reduceToNat, Nat.reduceMul, Nat.reduceAdd, Nat.reduceSub, ↓EU_region, ↓EU_draw], by simp (maxSteps := 1000000) (disch := first | decide | omega | (simp only [go_sem]; first | done | omega)) only [go_sem, Int.reduceToNat, Nat.reduceMul, Nat.reduceAdd, Nat.reduceSub, ↓EU_region, ↓EU_draw]; rfl, by simp (maxSteps := 1000000) (disch := first | decide | omega | (simp only [go_sem]; first | done | omega)) only [go_sem, Int.reduceToNat, Nat.reduceMul, Nat.reduceAdd, Nat.reduceSub, ↓EU_region, ↓EU_draw]; rfl, rfl⟩
    · omega
    · rintro ⟨_, _⟩ ⟨tm, rfl, ⟨rfl, g0, g4, hall⟩ | ⟨rfl, ht, g2, g3⟩⟩
      · by_cases h6 : l.length ≤ 64
        · have ht : tot l = (sumI l, true) := by unfold tot; rw [hall, if_pos (by simp [h6])]
          have hd : decide (64 < (l.length : Int)) = false := decide_eq_false (by omega)
          rw [ht]
          simp (maxSteps := 1000000) (disch := first | decide | omega | (simp only [go_sem]; first | done | omega)) only [go_sem, Int.reduceToNat, Nat.reduceMul, Nat.reduceAdd, Nat.reduceSub, ↓EU_region, ↓EU_draw, g0, g4, hd]
        · have ht : tot l = (0, false) := by
            unfold tot
            rw [if_neg]
            simp [h6]
          have hd : decide (64 < (l.length : Int)) = true := decide_eq_true (by omega)
          rw [ht]
          simp (maxSteps := 1000000) (disch := first | decide | omega | (simp only [go_sem]; first | done | omega)) only [go_sem, Int.reduceToNat, Nat.reduceMul, Nat.reduceAdd, Nat.reduceSub, ↓EU_region, ↓EU_draw, g0, g4, hd]
      · rw [ht]
        simp (maxSteps := 1000000) (disch := first | decide | omega | (simp only [go_sem]; first | done | omega)) only [go_sem, Int.reduceToNat, Nat.reduceMul, Nat.reduceAdd, Nat.reduceSub, ↓EU_region, ↓EU_draw, g2, g3]
  obtain ⟨q, e, rfl⟩ := this
  exact e
end Go.Proofs.Ytoomhlfogeglcaa.EV
