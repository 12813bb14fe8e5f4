/- Contracts: weight.Good, Step, Total, may, Off. No condition. -/
import Derived.Test.YtoomhlfogeglcaaO0
import Derived.Test.YtoomhlfogeglcaaQuo
namespace Go.Proofs.Ytoomhlfogeglcaa.EV
open Go Go.Proofs
set_option linter.unusedVariables false
set_option linter.unusedSimpArgs false
set_option maxRecDepth 100000
set_option pp.deepTerms false
set_option pp.deepTerms.threshold 20
theorem i64_len (x : Int) : (intE .i64 x).length = 1 := rfl
theorem i64_scal (x : Int) : (intE .i64 x).all scal = true := rfl
noncomputable def wgood (w : Int) : Bool := decide (1 ≤ w) && decide (w ≤ 20)
theorem wgood_facts {w : Int} (h : wgood w = true) : 1 ≤ w ∧ w ≤ 20 := by
  unfold wgood at h
  simpa using h
theorem wGood_ev (a : Int) (h : Heap) : EF Try.prog O0 10 [.int .i64 a] h = some (.bool (wgood a), h) := by
  have : WPo (EF Try.prog O0 10 [.int .i64 a] h) fun q => q = (.bool (wgood a), h) := by
    rw [EF_body (O := O0) (by kernel_rfl) Try.func10 rfl (rs := [.tmp 2]) rfl (bad := []) (by kernel_rfl) _ _ (m := 9) rfl]
    simp (maxSteps := 1000000) (disch := first | decide | omega | (simp only [go_sem]; first | done | omega)) only [go_sem, Int.reduceToNat, Nat.reduceMul, Nat.reduceAdd, Nat.reduceSub, ↓EU_region, ↓EU_draw]
    repeat' (((repeat refine WPo_ob ?_); (first | refine WPo_cond (fun hb => ?_) (fun hb => ?_) | refine WPo_gard (fun hb => ?_) (fun hb => ?_) | refine WPo_gardT (fun hb => ?_) (fun hb => ?_)) <;> (try simp only [Bool.not_eq_true', Bool.not_eq_false'] at hb)) <;> (simp (maxSteps := 1000000) (disch := first | decide | omega | (simp only [go_sem]; first | done | omega)) only [go_sem, Int.reduceToNat, Nat.reduceMul, Nat.reduceAdd, Nat.reduceSub, ↓EU_region, ↓EU_draw, hb]))
    all_goals simp [wgood, *]
  obtain ⟨q, e, rfl⟩ := this
  exact e
noncomputable def wstep (w : Int) : Int := if wgood w then (232792560 : Int).tdiv w else 0
theorem wstep_ev (a : Int) (h : Heap) : EF Try.prog O0 11 [.int .i64 a] h = some (.int .i64 (wstep a), h) := by
  have : WPo (EF Try.prog O0 11 [.int .i64 a] h) fun q => q = (.int .i64 (wstep a), h) := by
    unfold wstep
    rw [EF_body (O := O0) (by kernel_rfl) Try.func11 rfl (rs := [.tmp 2]) rfl (bad := []) (by kernel_rfl) _ _ (m := 8) rfl]
    cases hg : wgood a with
    | false =>
      rw [if_neg (by decide)]
      simp (maxSteps := 1000000) (disch := first | decide | omega | (simp only [go_sem]; first | done | omega)) only [go_sem, Int.reduceToNat, Nat.reduceMul, Nat.reduceAdd, Nat.reduceSub, ↓EU_region, ↓EU_draw, wGood_ev, hg]
    | true =>
      have hf := wgood_facts hg
      have hq := fun x y => bin_quo Try.prog 3 x y .i64 232792560 a (by omega)
      have hr : 0 ≤ (232792560 : Int).tdiv a ∧ (232792560 : Int).tdiv a ≤ 232792560 := by
        refine ⟨Int.tdiv_nonneg (by decide) (by omega), ?_⟩
        exact Int.tdiv_le_self _ (by decide)
      have hw : wrapF .i64 ((232792560 : Int).tdiv a) = (232792560 : Int).tdiv a := wrap64 (by omega)
      rw [if_pos rfl]
      simp (maxSteps := 1000000) (disch := first | decide | omega | (simp only [go_sem]; first | done | omega)) only [go_sem, Int.reduceToNat, Nat.reduceMul, Nat.reduceAdd, Nat.reduceSub, ↓EU_region, ↓EU_draw, wGood_ev, hg, hq, hw]
  obtain ⟨q, e, rfl⟩ := this
  exact e
noncomputable def sumI (l : List Int) : Int := l.foldl (· + ·) 0
theorem foldl_add (l : List Int) : ∀ a, l.foldl (· + ·) a = a + sumI l := by
  unfold sumI
  induction l with
  | nil => intro a; simp
  | cons x l ih => intro a; rw [List.foldl_cons, List.foldl_cons, ih, ih (0 + x)]; omega
theorem sumI_app (a b : List Int) : sumI (a ++ b) = sumI a + sumI b := by
  unfold sumI
  rw [List.foldl_append, foldl_add]; rfl
theorem sumI_good : ∀ {l : List Int}, l.all wgood = true → (l.length : Int) ≤ sumI l ∧ sumI l ≤ 20 * l.length
  | [], _ => by simp [sumI]
  | x :: l, h => by
    simp only [List.all_cons, Bool.and_eq_true] at h
    have := wgood_facts h.1
    have ih := sumI_good h.2
    have e : sumI (x :: l) = x + sumI l := by
      show (x :: l).foldl (· + ·) 0 = _
      rw [List.foldl_cons, foldl_add]; omega
    rw [e, List.length_cons]
    omega
noncomputable def tot (l : List Int) : Int × Bool := if l.all wgood && decide (l.length ≤ 64) then (sumI l, true) else (0, false)
theorem total_ev (l : List Int) (s : Value) (h : Heap) (hs : SL (intE .i64) 1 h s l) (hl : l.length < 900000) :
    EF Try.prog O0 12 [s] h = some (.tuple ⟨[.int .i64 (tot l).1, .bool (tot l).2]⟩, h) := by
  have : WPo (EF Try.prog O0 12 [s] h) fun q => q = (.tuple ⟨[.int .i64 (tot l).1, .bool (tot l).2]⟩, h) := by
    rw [EF_body (O := O0) (by kernel_rfl) Try.func12 rfl (rs := [.tmp 2, .tmp 3]) rfl (bad := []) (by kernel_rfl) _ _ (m := 26) rfl]
    obtain ⟨a, c, hv⟩ := hs.val
    subst hv
    simp (maxSteps := 1000000) (disch := first | decide | omega | (simp only [go_sem]; first | done | omega)) only [go_sem, Int.reduceToNat, Nat.reduceMul, Nat.reduceAdd, Nat.reduceSub, ↓EU_region, ↓EU_draw]
    repeat refine WPo_ob ?_
    refine (LP_rule (fun m st => ∃ (i : Nat) (tm : Fr), st = ⟨tm, h, []⟩ ∧ m = l.length - i ∧ i ≤ l.length ∧ (i = 0 ∨ l.length ≤ 64) ∧ Fr.get tm 0 = .slice a l.length c ∧ Fr.get tm 7 = .slice a l.length c ∧ Fr.get tm 8 = .int .i64 l.length ∧ Fr.get tm 9 = .int .i64 i ∧ Fr.get tm 4 = .int .i64 (sumI (l.take i)) ∧ (l.take i).all wgood = true)
      (fun q => ∃ tm, q.2 = ⟨tm, h, []⟩ ∧ ((q.1 = .exit 0 ∧ Fr.get tm 4 = .int .i64 (sumI l) ∧ l.all wgood = true ∧ l.length ≤ 64) ∨ (q.1 = .ret ∧ (tot l) = (0, false) ∧ Fr.get tm 2 = .int .i64 0 ∧ Fr.get tm 3 = .bool false))) ?_ l.length _ _ ?_ ?_).mono ?_
    · rintro m _ ⟨i, tm, rfl, rfl, hi, h64, g0, g7, g8, g9, g4, hall⟩
      simp (maxSteps := 1000000) (disch := first | decide | omega | (simp only [go_sem]; first | done | omega)) only [go_sem, Int.reduceToNat, Nat.reduceMul, Nat.reduceAdd, Nat.reduceSub, ↓EU_region, ↓EU_draw, g0, g7, g8, g9, g4]
      ((repeat refine WPo_ob ?_); (first | refine WPo_cond (fun b1 => ?_) (fun b1 => ?_) | refine WPo_gard (fun b1 => ?_) (fun b1 => ?_) | refine WPo_gardT (fun b1 => ?_) (fun b1 => ?_)) <;> (try simp only [Bool.not_eq_true', Bool.not_eq_false'] at b1))
      · simp only [decide_eq_true_eq] at b1
        have hi' : i < l.length := by omega
        obtain ⟨x, hx⟩ : ∃ x, l[i]? = some x := ⟨_, List.getElem?_eq_getElem hi'⟩
        obtain ⟨b, o, c', e, hb', hrd, hr⟩ := hs.at hx rfl
        cases e
        have hr0 := hr 0 _ rfl
        rw [add_z] at hr0
        simp (maxSteps := 1000000) (disch := first | decide | omega | (simp only [go_sem]; first | done | omega)) only [go_sem, Int.reduceToNat, Nat.reduceMul, Nat.reduceAdd, Nat.reduceSub, ↓EU_region, ↓EU_draw, g0, g7, g8, g9, g4, hr0, wGood_ev]
        cases hg : wgood x with
        | false =>
          have ht : tot l = (0, false) := by
            unfold tot
            rw [if_neg]
            simp only [Bool.and_eq_true, not_and]
            intro q
            have := List.all_eq_true.1 q x (List.mem_of_getElem? hx)
            rw [hg] at this; cases this
          simp (maxSteps := 1000000) (disch := first | decide | omega | (simp only [go_sem]; first | done | omega)) only [go_sem, Int.reduceToNat, Nat.reduceMul, Nat.reduceAdd, Nat.reduceSub, ↓EU_region, ↓EU_draw, g0, g7, g8, g9, g4]
          exact ⟨_, rfl, .inr ⟨trivial, ht, by simp (maxSteps := 1000000) (disch := first | decide | omega | (simp only [go_sem]; first | done | omega)) only [go_sem, Int.reduceToNat, Nat.reduceMul, Nat.reduceAdd, Nat.reduceSub, ↓EU_region, ↓EU_draw], by simp (maxSteps := 1000000) (disch := first | decide | omega | (simp only [go_sem]; first | done | omega)) only [go_sem, Int.reduceToNat, Nat.reduceMul, Nat.reduceAdd, Nat.reduceSub, ↓EU_region, ↓EU_draw]⟩⟩
        | true =>
          have hf := wgood_facts hg
          by_cases h6 : l.length ≤ 64
          · have hd : decide (64 < (l.length : Int)) = false := decide_eq_false (by omega)
            have hgd := sumI_good hall
            have hil : (l.take i).length = i := by rw [List.length_take]; omega
            rw [hil] at hgd
            have hw : wrapF .i64 (sumI (l.take i) + x) = sumI (l.take i) + x := wrap64 (by omega)
            have hnx : sumI (l.take (i + 1)) = sumI (l.take i) + x := by
              rw [List.take_add_one, hx, sumI_app]
              simp [sumI]
            have hna : (l.take (i + 1)).all wgood = true := by
              rw [List.take_add_one, hx, List.all_append, hall]
              simp [hg]
            simp (maxSteps := 1000000) (disch := first | decide | omega | (simp only [go_sem]; first | done | omega)) only [go_sem, Int.reduceToNat, Nat.reduceMul, Nat.reduceAdd, Nat.reduceSub, ↓EU_region, ↓EU_draw, g0, g7, g8, g9, g4, hd, hw]
            exact ⟨_, by omega, i + 1, _, rfl, rfl, by omega, .inr h6, by simp (maxSteps := 1000000) (disch := first | decide | omega | (simp only [go_sem]; first | done | omega)) only [go_sem, Int.reduceToNat, Nat.reduceMul, Nat.reduceAdd, Nat.reduceSub, ↓EU_region, ↓EU_draw, g0], by simp (maxSteps := 1000000) (disch := first | decide | omega | (simp only [go_sem]; first | done | omega)) only [go_sem, Int.reduceToNat, Nat.reduceMul, Nat.reduceAdd, Nat.reduceSub, ↓EU_region, ↓EU_draw, g7], by simp (maxSteps := 1000000) (disch := first | decide | omega | (simp only [go_sem]; first | done | omega)) only [go_sem, Int.reduceToNat, Nat.reduceMul, Nat.reduceAdd, Nat.reduceSub, ↓EU_region, ↓EU_draw, g8], by simp (maxSteps := 1000000) (disch := first | decide | omega | (simp only [go_sem]; first | done | omega)) only [go_sem, Int.reduceToNat, Nat.reduceMul, Nat.reduceAdd, Nat.reduceSub, ↓EU_region, ↓EU_draw], by simp (maxSteps := 1000000) (disch := first | decide | omega | (simp only [go_sem]; first | done | omega)) only [go_sem, Int.reduceToNat, Nat.reduceMul, Nat.reduceAdd, Nat.reduceSub, ↓EU_region, ↓EU_draw]; rw [hnx], hna⟩
          · have hd : decide (64 < (l.length : Int)) = true := decide_eq_true (by omega)
            have ht : tot l = (0, false) := by
              unfold tot
              rw [if_neg]
              simp [h6]
            simp (maxSteps := 1000000) (disch := first | decide | omega | (simp only [go_sem]; first | done | omega)) only [go_sem, Int.reduceToNat, Nat.reduceMul, Nat.reduceAdd, Nat.reduceSub, ↓EU_region, ↓EU_draw, g0, g7, g8, g9, g4, hd]
            exact ⟨_, rfl, .inr ⟨trivial, ht, by simp (maxSteps := 1000000) (disch := first | decide | omega | (simp only [go_sem]; first | done | omega)) only [go_sem, Int.reduceToNat, Nat.reduceMul, Nat.reduceAdd, Nat.reduceSub, ↓EU_region, ↓EU_draw], by simp (maxSteps := 1000000) (disch := first | decide | omega | (simp only [go_sem]; first | done | omega)) only [go_sem, Int.reduceToNat, Nat.reduceMul, Nat.reduceAdd, Nat.reduceSub, ↓EU_region, ↓EU_draw]⟩⟩
      · simp only [decide_eq_false_iff_not] at b1
        have : i = l.length := by omega
        subst this
        rw [List.take_length] at g4 hall
        simp (maxSteps := 1000000) (disch := first | decide | omega | (simp only [go_sem]; first | done | omega)) only [go_sem, Int.reduceToNat, Nat.reduceMul, Nat.reduceAdd, Nat.reduceSub, ↓EU_region, ↓EU_draw]
        refine ⟨_, rfl, .inl ⟨trivial, by simp (maxSteps := 1000000) (disch := first | decide | omega | (simp only [go_sem]; first | done | omega)) only [go_sem, Int.reduceToNat, Nat.reduceMul, Nat.reduceAdd, Nat.reduceSub, ↓EU_region, ↓EU_draw, g4], hall, ?_⟩⟩
        rcases h64 with h64 | h64 <;> omega
    · exact ⟨0, _, rfl, rfl, by omega, .inl rfl, by simp (maxSteps := 1000000) (disch := first | decide | omega | (simp only [go_sem]; first | done | omega)) only [go_sem, Int.reduceToNat, Nat.reduceMul, Nat.reduceAdd, Nat.reduceSub, ↓EU_region, ↓EU_draw], by simp (maxSteps := 1000000) (disch := first | decide | omega | (simp only [go_sem]; first | done | omega)) only [go_sem, Int.reduceToNat, Nat.reduceMul, Nat.reduceAdd, Nat.reduceSub, ↓EU_region, ↓EU_draw], by simp (maxSteps := 1000000) (disch := first | decide | omega | (simp only [go_sem]; first | done | omega)) only [go_sem, Int.reduceToNat, Nat.reduceMul, Nat.reduceAdd, Nat.reduceSub, ↓EU_region, ↓EU_draw], by simp (maxSteps := 1000000) (disch := first | decide | omega | (simp only [go_sem]; first | done | omega)) only [go_sem, Int.reduceToNat, Nat.reduceMul, Nat.reduceAdd, Nat.reduceSub, ↓EU_region, ↓EU_draw]; rfl, by simp (maxSteps := 1000000) (disch := first | decide | omega | (simp only [go_sem]; first | done | omega)) only [go_sem, Int.reduceToNat, Nat.reduceMul, Nat.reduceAdd, Nat.reduceSub, ↓EU_region, ↓EU_draw]; rfl, rfl⟩
    · omega
    · rintro ⟨q, _⟩ ⟨tm, rfl, ⟨rfl, g4, ha, h6⟩ | ⟨rfl, ht, g2, g3⟩⟩
      · have ht : tot l = (sumI l, true) := by unfold tot; rw [ha, if_pos (by simp [h6])]
        rw [ht]
        simp (maxSteps := 1000000) (disch := first | decide | omega | (simp only [go_sem]; first | done | omega)) only [go_sem, Int.reduceToNat, Nat.reduceMul, Nat.reduceAdd, Nat.reduceSub, ↓EU_region, ↓EU_draw, g4]
      · rw [ht]
        simp (maxSteps := 1000000) (disch := first | decide | omega | (simp only [go_sem]; first | done | omega)) only [go_sem, Int.reduceToNat, Nat.reduceMul, Nat.reduceAdd, Nat.reduceSub, ↓EU_region, ↓EU_draw, g2, g3]
  obtain ⟨q, e, rfl⟩ := this
  exact e
end Go.Proofs.Ytoomhlfogeglcaa.EV
