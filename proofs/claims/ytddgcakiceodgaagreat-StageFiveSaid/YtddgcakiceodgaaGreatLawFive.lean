/- StageFive, plainly. No condition. -/
import Derived.Test.YtddgcakiceodgaaGreatStg4
import Derived.Test.YtddgcakiceodgaaGreatRowItem
namespace Go.Proofs.YtddgcakiceodgaaGreat.EV
open Go Go.Proofs
set_option linter.unusedVariables false
set_option linter.unusedSimpArgs false
set_option maxRecDepth 100000
set_option pp.deepTerms false
set_option pp.deepTerms.threshold 20
@[go_sem] theorem tq_nil (b : Nat) (x y : Operand) : evBin Tryz.prog .eql 28 x y (ptr b 0) (.pointer none) = some (.bool false) := by kernel_rfl
@[go_sem] theorem tq_nil' (x y : Operand) : evBin Tryz.prog .eql 28 x y (.pointer none) (.pointer none) = some (.bool true) := by kernel_rfl
theorem law_StageFive (h : Heap) (tag : Int) (wt : (Lit.int .i64 tag).wf = true) (cf : Int) (wf : (Lit.int .i64 cf).wf = true) (sf : Value) (lf : List Item) (hf : SL itemE 3 h sf lf) (wlf : ∀ z ∈ lf, ItemWf z) (to : Int) (wto : (Lit.int .i64 to).wf = true) (base : Int) (wb : (Lit.int .i64 base).wf = true) :
    WPo (EF Tryz.prog O0 3 [.int .i64 tag, formV cf sf, .int .i64 to, .int .i64 base] h) fun q => q.1 = .bool true := by
  rw [EF_body (O := O0) (by kernel_rfl) Tryz.func3 rfl (rs := [.tmp 8]) rfl (bad := [19]) (by kernel_rfl) _ _ (m := 110) rfl]
  obtain ⟨af, kf, e⟩ := hf.val
  subst e
  unfold formV
  simp (maxSteps := 1000000) (disch := first | decide | omega | (simp only [go_sem]; first | done | omega)) only [go_sem, Int.reduceToNat, Nat.reduceMul, Nat.reduceAdd, Nat.reduceSub, ↓EU_region, ↓EU_draw, awake_ev]
  ((repeat refine WPo_ob ?_); (first | refine WPo_cond (fun b1 => ?_) (fun b1 => ?_) | refine WPo_gard (fun b1 => ?_) (fun b1 => ?_) | refine WPo_gardT (fun b1 => ?_) (fun b1 => ?_)) <;> (try simp only [Bool.not_eq_true', Bool.not_eq_false'] at b1))
  · simp (maxSteps := 1000000) (disch := first | decide | omega | (simp only [go_sem]; first | done | omega)) only [go_sem, Int.reduceToNat, Nat.reduceMul, Nat.reduceAdd, Nat.reduceSub, ↓EU_region, ↓EU_draw, b1]
  · have b1' := b1
    simp only [decide_eq_false_iff_not] at b1'
    simp (maxSteps := 1000000) (disch := first | decide | omega | (simp only [go_sem]; first | done | omega)) only [go_sem, Int.reduceToNat, Nat.reduceMul, Nat.reduceAdd, Nat.reduceSub, ↓EU_region, ↓EU_draw, b1]
    repeat refine WPo_ob ?_
    refine (fill_ev tag cf lf (.slice af lf.length kf) _ (hf.ext ((Ext.refl h).push _)) (by omega)).mono ?_
    rintro ⟨w, h1⟩ ⟨x1, k⟩
    simp only at x1 k
    have hn1 := x1.le
    rw [next_push] at hn1
    cases hg : (tgood tag && goodF cf lf) with
    | false =>
      rw [hg, if_neg (by decide)] at k
      subst k
      unfold nilP
      simp (maxSteps := 1000000) (disch := first | decide | omega | (simp only [go_sem]; first | done | omega)) only [go_sem, Int.reduceToNat, Nat.reduceMul, Nat.reduceAdd, Nat.reduceSub, ↓EU_region, ↓EU_draw]
    | true =>
      rw [hg, if_pos rfl] at k
      obtain ⟨cb, qb, lb, mb, v, e, cq, hcb⟩ := k
      rw [next_push] at hcb
      subst e
      have hgf := (Bool.and_eq_true_iff.1 hg).2
      have htg := (Bool.and_eq_true_iff.1 hg).1
      simp (maxSteps := 1000000) (disch := first | decide | omega | (simp only [go_sem]; first | done | omega)) only [go_sem, Int.reduceToNat, Nat.reduceMul, Nat.reduceAdd, Nat.reduceSub, ↓EU_region, ↓EU_draw]
      repeat refine WPo_ob ?_
      refine (stageNew_ev cb to base h1).mono ?_
      rintro ⟨w, h2⟩ ⟨x2, k⟩
      simp only at x2 k
      cases hg2 : (tgood to && bgood base) with
      | false =>
        rw [hg2, if_neg (by decide)] at k
        subst k
        unfold nilP
        have hb : to < 0 ∨ 2 < to ∨ 1152921504606846976 < base ∨ base < -1152921504606846976 := by
          rw [Bool.and_eq_false_iff] at hg2
          rcases hg2 with q | q
          · have := tgood_f q; unfold tgood at q; simp only [Bool.and_eq_false_iff, decide_eq_false_iff_not] at q; omega
          · have := bgood_f q; omega
        simp (maxSteps := 1000000) (disch := first | decide | omega | (simp only [go_sem]; first | done | omega)) only [go_sem, Int.reduceToNat, Nat.reduceMul, Nat.reduceAdd, Nat.reduceSub, ↓EU_region, ↓EU_draw, Int.reduceEq]
        repeat' (((repeat refine WPo_ob ?_); (first | refine WPo_cond (fun hb => ?_) (fun hb => ?_) | refine WPo_gard (fun hb => ?_) (fun hb => ?_) | refine WPo_gardT (fun hb => ?_) (fun hb => ?_)) <;> (try simp only [Bool.not_eq_true', Bool.not_eq_false'] at hb)) <;> (simp (maxSteps := 1000000) (disch := first | decide | omega | (simp only [go_sem]; first | done | omega)) only [go_sem, Int.reduceToNat, Nat.reduceMul, Nat.reduceAdd, Nat.reduceSub, ↓EU_region, ↓EU_draw, hb]))
        all_goals (congr 1; rw [decide_eq_true_eq]; simp only [decide_eq_true_eq, decide_eq_false_iff_not] at *; omega)
      | true =>
        rw [hg2, if_pos rfl] at k
        obtain ⟨tb, e, htb, htl, g2⟩ := k
        subst e
        have hto := (Bool.and_eq_true_iff.1 hg2).1
        have hbs := (Bool.and_eq_true_iff.1 hg2).2
        have hcg : cgood tag cf lf = true := by
          unfold cgood
          rw [hgf, Bool.and_true]
          exact htg
        have k0 : KF cb tb tag to base cf lf 0 h2 := ⟨htl, noS, nilP, g2, ⟨qb, lb, mb, v, 0, cq.ext x2⟩, fun _ => rfl, fun h => absurd h (by decide), fun h => absurd h (by omega)⟩
        have hB2 : h2.get h.next = .cells [.int .i64 cf, .slice af lf.length kf] 0 := by rw [x2.old _ (by omega), x1.old _ (by rw [next_push]; omega)]; exact get_push_new _ _
        have hs2 : SL itemE 3 h2 (.slice af lf.length kf) lf := hf.ext ((((Ext.refl h).push _).trans x1).trans x2)
        have hft : ∀ j, blkOf (.slice af lf.length kf) j → j < h.next := fun j hj => hf.lt hj
        have hn2 := x2.le
        simp (maxSteps := 1000000) (disch := first | decide | omega | (simp only [go_sem]; first | done | omega)) only [go_sem, Int.reduceToNat, Nat.reduceMul, Nat.reduceAdd, Nat.reduceSub, ↓EU_region, ↓EU_draw]
        repeat refine WPo_ob ?_
        refine (LP_rule (fun m st => ∃ (n : Nat) (tm : Fr) (h3 : Heap), st = ⟨tm, h3, []⟩ ∧ m = 7 - n ∧ n ≤ 7 ∧ Fr.get tm 0 = .int .i64 tag ∧ Fr.get tm 2 = .int .i64 to ∧ Fr.get tm 5 = ptr h.next 0 ∧ Fr.get tm 9 = ptr cb 0 ∧ Fr.get tm 10 = ptr tb 0 ∧ Fr.get tm 12 = .int .i64 ((n + 1 : Nat) : Int) ∧ KF cb tb tag to base cf lf n h3 ∧ h3.get h.next = .cells [.int .i64 cf, .slice af lf.length kf] 0 ∧ SL itemE 3 h3 (.slice af lf.length kf) lf ∧ h.next < h3.next)
          (fun q => ∃ tm h3, q.2 = ⟨tm, h3, []⟩ ∧ q.1 = .exit 0 ∧ Fr.get tm 10 = ptr tb 0 ∧ KF cb tb tag to base cf lf 7 h3) ?_ 7 _ _ ?_ ?_).mono ?_
        · rintro m _ ⟨n, tm, h3, rfl, rfl, hn, g0, g2, g5, g9, g10, g12, k3, hB3, hs3, hn3⟩
          by_cases q : n = 7
          · subst q
            have hd : decide (((7 + 1 : Nat) : Int) ≤ 7) = false := by decide
            simp (maxSteps := 1000000) (disch := first | decide | omega | (simp only [go_sem]; first | done | omega)) only [go_sem, Int.reduceToNat, Nat.reduceMul, Nat.reduceAdd, Nat.reduceSub, ↓EU_region, ↓EU_draw, g12, hd]
            exact ⟨_, _, rfl, trivial, by simp (maxSteps := 1000000) (disch := first | decide | omega | (simp only [go_sem]; first | done | omega)) only [go_sem, Int.reduceToNat, Nat.reduceMul, Nat.reduceAdd, Nat.reduceSub, ↓EU_region, ↓EU_draw, g10], k3⟩
          · have hn7 : n < 7 := by omega
            have hd : decide (((n + 1 : Nat) : Int) ≤ 7) = true := decide_eq_true (by omega)
            simp (maxSteps := 1000000) (disch := first | decide | omega | (simp only [go_sem]; first | done | omega)) only [go_sem, Int.reduceToNat, Nat.reduceMul, Nat.reduceAdd, Nat.reduceSub, ↓EU_region, ↓EU_draw, g0, g2, g5, g9, g10, g12, hd]
            repeat refine WPo_ob ?_
            refine (kstep k3 hcg hto hbs).mono ?_
            rintro ⟨w, h4⟩ ⟨e, k4, m4⟩
            simp only at e k4 m4
            subst e
            have hB4 := (m4.old h.next hn3 (by omega)).trans hB3
            have hs4 : SL itemE 3 h4 (.slice af lf.length kf) lf := hs3.modB m4 fun j hj => by have := hft j hj; omega
            have hn4 := m4.le
            obtain ⟨htl4, bv, qv, ht4, ⟨qb4, lb4, mb4, v4, bs4, c4⟩, hb1, hb2, _⟩ := k4
            have k4 : KF cb tb tag to base cf lf (n + 1) h4 := ⟨htl4, bv, qv, ht4, ⟨qb4, lb4, mb4, v4, bs4, c4⟩, hb1, hb2, by assumption⟩
            have hT4 := coreTag_ev c4
            have hnr := near_good (base := bs4) hgf
            have hF4 := coreForm_ev c4 (by rw [List.length_map]; omega) hnr
            rw [map_itP_ptI] at hF4
            have hvL : veqL [.int .i64 cf, .slice af lf.length kf] [.int .i64 cf, .slice af lf.length kf] = true := by
              show ((decide (IntKind.i64 = IntKind.i64) && decide (cf = cf)) && (veq (.slice af lf.length kf) (.slice af lf.length kf) && true)) = true
              rw [hf.veq, decide_eq_true rfl, decide_eq_true rfl]; rfl
            have dc : decide (cf = cf) = true := decide_eq_true rfl
            have dl : decide (lf = lf) = true := decide_eq_true rfl
            obtain ⟨B, hbB, hBl, beta, dB, d2⟩ : ∃ B : List UInt8, SL byteE 1 h4 bv B ∧ B.length < 900000 ∧ ∃ be : Bool, decide ((0 : Int) < (B.length : Int)) = be ∧ decide ((2 : Int) ≤ ((n + 1 : Nat) : Int)) = be := by
              by_cases q2 : 2 ≤ n + 1
              · exact ⟨_, (hb2 q2).sl, by rw [sealN_len, encF_len]; omega, true, decide_eq_true (by rw [sealN_len, encF_len]; omega), decide_eq_true (by omega)⟩
              · rw [hb1 (by omega)]
                exact ⟨[], .nil, by decide, false, rfl, decide_eq_false (by omega)⟩
            by_cases q5 : 5 ≤ n + 1
            · have e5 : min (n + 1) 5 = 5 := by omega
              have d5 : decide ((5 : Int) ≤ ((n + 1 : Nat) : Int)) = true := decide_eq_true (by omega)
              have dM : decide (((5 : Nat) : Int) = 5) = true := rfl
              rw [if_neg (by omega)] at hT4
              have dW : decide (to = to) = true := decide_eq_true rfl
              rw [e5] at *
              simp (maxSteps := 1000000) (disch := first | decide | omega | (simp only [go_sem]; first | done | omega)) only [go_sem, Int.reduceToNat, Nat.reduceMul, Nat.reduceAdd, Nat.reduceSub, ↓EU_region, ↓EU_draw, g0, g2, g5, g9, g10, g12, d5]
              rw [EU_bad _ _ rfl, EC_tab (tab := [(false, none), (false, none), (false, none), (false, none), (false, none), (false, none), (false, none), (false, none), (false, none), (true, none), (false, none), (false, none), (false, none), (false, none), (false, none), (true, none), (false, (some (1, 2))), (true, none), (false, none), (false, none), (false, none), (false, none), (true, none), (false, none), (false, none), (false, none), (false, none), (false, none), (false, none)]) (by kernel_rfl)]
              simp (maxSteps := 1000000) (disch := first | decide | omega | (simp only [go_sem]; first | done | omega)) only [go_sem, Int.reduceToNat, Nat.reduceMul, Nat.reduceAdd, Nat.reduceSub, ↓EU_region, ↓EU_draw, g0, g2, g5, g9, g10, g12, d5, dM, hT4, dW]
              repeat refine WPo_ob ?_
              refine hF4.mono ?_
              rintro ⟨w, h5⟩ ⟨u5, e, o5, f5, x5⟩
              simp only at e o5 x5
              subst e
              have hB5 := (x5.old h.next (by omega)).trans hB4
              have hS5 := same_ev cf cf lf lf u5 _ h5 o5.sl (hs4.ext x5) (by omega)
              unfold formV at hS5 ⊢
              simp (maxSteps := 1000000) (disch := first | decide | omega | (simp only [go_sem]; first | done | omega)) only [go_sem, Int.reduceToNat, Nat.reduceMul, Nat.reduceAdd, Nat.reduceSub, ↓EU_region, ↓EU_draw, g0, g2, g5, g9, g10, g12, d5, dM, hT4, dW, hB4, hB5]
              repeat refine WPo_ob ?_
              refine hS5.bind fun h6 x6 => ?_
              have hB6 := (x6.old h.next (by have := x5.le; omega)).trans hB5
              have ht6 := (x6.old tb (by have := x5.le; omega)).trans ((x5.old tb htl4).trans ht4)
              have hb6 := (hbB.ext x5).ext x6
              simp (maxSteps := 1000000) (disch := first | decide | omega | (simp only [go_sem]; first | done | omega)) only [go_sem, Int.reduceToNat, Nat.reduceMul, Nat.reduceAdd, Nat.reduceSub, ↓EU_region, ↓EU_draw, g0, g2, g5, g9, g10, g12, d5, dM, hT4, dW, hB4, hB5, hB6, dc, dl]
              repeat refine WPo_ob ?_
              refine (stageBytes_ev ht6 hb6 (by omega)).mono ?_
              rintro ⟨w, h7⟩ ⟨o7, f7, x7⟩
              simp only at o7 x7
              have hB7 := (x7.old h.next (by have := x5.le; have := x6.le; omega)).trans hB6
              obtain ⟨a7, k7, e⟩ := o7.val
              subst e
              have x47 := (x5.trans x6).trans x7
              simp (maxSteps := 1000000) (disch := first | decide | omega | (simp only [go_sem]; first | done | omega)) only [go_sem, Int.reduceToNat, Nat.reduceMul, Nat.reduceAdd, Nat.reduceSub, ↓EU_region, ↓EU_draw, g0, g2, g5, g9, g10, g12, d5, dM, hT4, dW, hB4, hB5, hB6, hB7, dc, dl, dB, d2, hvL, bne_self_eq_false]


              exact ⟨7 - (n + 1), by omega, n + 1, _, _, rfl, rfl, by omega, by simp (maxSteps := 1000000) (disch := first | decide | omega | (simp only [go_sem]; first | done | omega)) only [go_sem, Int.reduceToNat, Nat.reduceMul, Nat.reduceAdd, Nat.reduceSub, ↓EU_region, ↓EU_draw, g0], by simp (maxSteps := 1000000) (disch := first | decide | omega | (simp only [go_sem]; first | done | omega)) only [go_sem, Int.reduceToNat, Nat.reduceMul, Nat.reduceAdd, Nat.reduceSub, ↓EU_region, ↓EU_draw, g2], by simp (maxSteps := 1000000) (disch := first | decide | omega | (simp only [go_sem]; first | done | omega)) only [go_sem, Int.reduceToNat, Nat.reduceMul, Nat.reduceAdd, Nat.reduceSub, ↓EU_region, ↓EU_draw, g5], by simp (maxSteps := 1000000) (disch := first | decide | omega | (simp only [go_sem]; first | done | omega)) only [go_sem, Int.reduceToNat, Nat.reduceMul, Nat.reduceAdd, Nat.reduceSub, ↓EU_region, ↓EU_draw, g9], by simp (maxSteps := 1000000) (disch := first | decide | omega | (simp only [go_sem]; first | done | omega)) only [go_sem, Int.reduceToNat, Nat.reduceMul, Nat.reduceAdd, Nat.reduceSub, ↓EU_region, ↓EU_draw, g10], by simp (maxSteps := 1000000) (disch := first | decide | omega | (simp only [go_sem]; first | done | omega)) only [go_sem, Int.reduceToNat, Nat.reduceMul, Nat.reduceAdd, Nat.reduceSub, ↓EU_region, ↓EU_draw], k4.ext x47, hB7, hs4.ext x47, by have := x47.le; omega⟩
            · have e5 : min (n + 1) 5 = n + 1 := by omega
              have d5 : decide ((5 : Int) ≤ ((n + 1 : Nat) : Int)) = false := decide_eq_false (by omega)
              have dM : decide (((n + 1 : Nat) : Int) = ((n + 1 : Nat) : Int)) = true := decide_eq_true rfl
              rw [if_pos (by omega)] at hT4
              have dW : decide (tag = tag) = true := decide_eq_true rfl
              rw [e5] at *
              simp (maxSteps := 1000000) (disch := first | decide | omega | (simp only [go_sem]; first | done | omega)) only [go_sem, Int.reduceToNat, Nat.reduceMul, Nat.reduceAdd, Nat.reduceSub, ↓EU_region, ↓EU_draw, g0, g2, g5, g9, g10, g12, d5]
              rw [EU_bad _ _ rfl, EC_tab (tab := [(false, none), (false, none), (false, none), (false, none), (false, none), (false, none), (false, none), (false, none), (false, none), (true, none), (false, none), (false, none), (false, none), (false, none), (false, none), (true, none), (false, (some (1, 2))), (true, none), (false, none), (false, none), (false, none), (false, none), (true, none), (false, none), (false, none), (false, none), (false, none), (false, none), (false, none)]) (by kernel_rfl)]
              simp (maxSteps := 1000000) (disch := first | decide | omega | (simp only [go_sem]; first | done | omega)) only [go_sem, Int.reduceToNat, Nat.reduceMul, Nat.reduceAdd, Nat.reduceSub, ↓EU_region, ↓EU_draw, g0, g2, g5, g9, g10, g12, d5, dM, hT4, dW]
              repeat refine WPo_ob ?_
              refine hF4.mono ?_
              rintro ⟨w, h5⟩ ⟨u5, e, o5, f5, x5⟩
              simp only at e o5 x5
              subst e
              have hB5 := (x5.old h.next (by omega)).trans hB4
              have hS5 := same_ev cf cf lf lf u5 _ h5 o5.sl (hs4.ext x5) (by omega)
              unfold formV at hS5 ⊢
              simp (maxSteps := 1000000) (disch := first | decide | omega | (simp only [go_sem]; first | done | omega)) only [go_sem, Int.reduceToNat, Nat.reduceMul, Nat.reduceAdd, Nat.reduceSub, ↓EU_region, ↓EU_draw, g0, g2, g5, g9, g10, g12, d5, dM, hT4, dW, hB4, hB5]
              repeat refine WPo_ob ?_
              refine hS5.bind fun h6 x6 => ?_
              have hB6 := (x6.old h.next (by have := x5.le; omega)).trans hB5
              have ht6 := (x6.old tb (by have := x5.le; omega)).trans ((x5.old tb htl4).trans ht4)
              have hb6 := (hbB.ext x5).ext x6
              simp (maxSteps := 1000000) (disch := first | decide | omega | (simp only [go_sem]; first | done | omega)) only [go_sem, Int.reduceToNat, Nat.reduceMul, Nat.reduceAdd, Nat.reduceSub, ↓EU_region, ↓EU_draw, g0, g2, g5, g9, g10, g12, d5, dM, hT4, dW, hB4, hB5, hB6, dc, dl]
              repeat refine WPo_ob ?_
              refine (stageBytes_ev ht6 hb6 (by omega)).mono ?_
              rintro ⟨w, h7⟩ ⟨o7, f7, x7⟩
              simp only at o7 x7
              have hB7 := (x7.old h.next (by have := x5.le; have := x6.le; omega)).trans hB6
              obtain ⟨a7, k7, e⟩ := o7.val
              subst e
              have x47 := (x5.trans x6).trans x7
              simp (maxSteps := 1000000) (disch := first | decide | omega | (simp only [go_sem]; first | done | omega)) only [go_sem, Int.reduceToNat, Nat.reduceMul, Nat.reduceAdd, Nat.reduceSub, ↓EU_region, ↓EU_draw, g0, g2, g5, g9, g10, g12, d5, dM, hT4, dW, hB4, hB5, hB6, hB7, dc, dl, dB, d2, hvL, bne_self_eq_false]


              exact ⟨7 - (n + 1), by omega, n + 1, _, _, rfl, rfl, by omega, by simp (maxSteps := 1000000) (disch := first | decide | omega | (simp only [go_sem]; first | done | omega)) only [go_sem, Int.reduceToNat, Nat.reduceMul, Nat.reduceAdd, Nat.reduceSub, ↓EU_region, ↓EU_draw, g0], by simp (maxSteps := 1000000) (disch := first | decide | omega | (simp only [go_sem]; first | done | omega)) only [go_sem, Int.reduceToNat, Nat.reduceMul, Nat.reduceAdd, Nat.reduceSub, ↓EU_region, ↓EU_draw, g2], by simp (maxSteps := 1000000) (disch := first | decide | omega | (simp only [go_sem]; first | done | omega)) only [go_sem, Int.reduceToNat, Nat.reduceMul, Nat.reduceAdd, Nat.reduceSub, ↓EU_region, ↓EU_draw, g5], by simp (maxSteps := 1000000) (disch := first | decide | omega | (simp only [go_sem]; first | done | omega)) only [go_sem, Int.reduceToNat, Nat.reduceMul, Nat.reduceAdd, Nat.reduceSub, ↓EU_region, ↓EU_draw, g9], by simp (maxSteps := 1000000) (disch := first | decide | omega | (simp only [go_sem]; first | done | omega)) only [go_sem, Int.reduceToNat, Nat.reduceMul, Nat.reduceAdd, Nat.reduceSub, ↓EU_region, ↓EU_draw, g10], by simp (maxSteps := 1000000) (disch := first | decide | omega | (simp only [go_sem]; first | done | omega)) only [go_sem, Int.reduceToNat, Nat.reduceMul, Nat.reduceAdd, Nat.reduceSub, ↓EU_region, ↓EU_draw], k4.ext x47, hB7, hs4.ext x47, by have := x47.le; omega⟩
        · exact ⟨0, _, _, rfl, rfl, by omega, by simp (maxSteps := 1000000) (disch := first | decide | omega | (simp only [go_sem]; first | done | omega)) only [go_sem, Int.reduceToNat, Nat.reduceMul, Nat.reduceAdd, Nat.reduceSub, ↓EU_region, ↓EU_draw], by simp (maxSteps := 1000000) (disch := first | decide | omega | (simp only [go_sem]; first | done | omega)) only [go_sem, Int.reduceToNat, Nat.reduceMul, Nat.reduceAdd, Nat.reduceSub, ↓EU_region, ↓EU_draw], by simp (maxSteps := 1000000) (disch := first | decide | omega | (simp only [go_sem]; first | done | omega)) only [go_sem, Int.reduceToNat, Nat.reduceMul, Nat.reduceAdd, Nat.reduceSub, ↓EU_region, ↓EU_draw], by simp (maxSteps := 1000000) (disch := first | decide | omega | (simp only [go_sem]; first | done | omega)) only [go_sem, Int.reduceToNat, Nat.reduceMul, Nat.reduceAdd, Nat.reduceSub, ↓EU_region, ↓EU_draw], by simp (maxSteps := 1000000) (disch := first | decide | omega | (simp only [go_sem]; first | done | omega)) only [go_sem, Int.reduceToNat, Nat.reduceMul, Nat.reduceAdd, Nat.reduceSub, ↓EU_region, ↓EU_draw], by simp (maxSteps := 1000000) (disch := first | decide | omega | (simp only [go_sem]; first | done | omega)) only [go_sem, Int.reduceToNat, Nat.reduceMul, Nat.reduceAdd, Nat.reduceSub, ↓EU_region, ↓EU_draw]; rfl, k0, hB2, hs2, by omega⟩
        · omega
        · rintro ⟨q, _⟩ ⟨tm, h3, rfl, rfl, g10, k3⟩
          obtain ⟨htl3, bv, qv, ht3, _⟩ := k3
          have hA := stageAbort_ev ht3
          have hW := stageWhy_ev ht3
          rw [show decide (((min 7 5 : Nat) : Int) < 5) = false from rfl, if_pos (by decide)] at hA
          simp (maxSteps := 1000000) (disch := first | decide | omega | (simp only [go_sem]; first | done | omega)) only [go_sem, Int.reduceToNat, Nat.reduceMul, Nat.reduceAdd, Nat.reduceSub, ↓EU_region, ↓EU_draw, g10, hA, hW]
end Go.Proofs.YtddgcakiceodgaaGreat.EV
