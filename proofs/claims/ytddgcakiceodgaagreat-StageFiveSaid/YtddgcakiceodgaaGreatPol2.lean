/- Contracts: policy.of, New, Seed, Tag, Good. No condition. -/
import Derived.Test.YtddgcakiceodgaaGreatPol1
namespace Go.Proofs.YtddgcakiceodgaaGreat.EV
open Go Go.Proofs
set_option linter.unusedVariables false
set_option linter.unusedSimpArgs false
set_option maxRecDepth 100000
set_option pp.deepTerms false
set_option pp.deepTerms.threshold 20
theorem polOf_ev (tag : Int) (t : TypeId) (p : Value) (e : Int) (h : Heap) : WPo (EF Tryz.prog O0 57 [.int .i64 tag, .iface t p, .int .i64 e] h) fun q => Ext h q.2 ∧ if e = 0 then ∃ b, q.1 = .tuple ⟨[ptr b 0, .int .i64 0]⟩ ∧ h.next ≤ b ∧ b < q.2.next ∧ q.2.get b = .cells [.iface t p, .int .i64 tag] 0 else q.1 = .tuple ⟨[nilP, .int .i64 e]⟩ := by
  rw [EF_body (O := O0) (by kernel_rfl) Tryz.func57 rfl (rs := [.tmp 6, .tmp 7]) rfl (bad := []) (by kernel_rfl) _ _ (m := 15) rfl]
  simp (maxSteps := 1000000) (disch := first | decide | omega | (simp only [go_sem]; first | done | omega)) only [go_sem, Int.reduceToNat, Nat.reduceMul, Nat.reduceAdd, Nat.reduceSub, ↓EU_region, ↓EU_draw]
  ((repeat refine WPo_ob ?_); (first | refine WPo_cond (fun b1 => ?_) (fun b1 => ?_) | refine WPo_gard (fun b1 => ?_) (fun b1 => ?_) | refine WPo_gardT (fun b1 => ?_) (fun b1 => ?_)) <;> (try simp only [Bool.not_eq_true', Bool.not_eq_false'] at b1))
  · simp only [decide_eq_false_iff_not] at b1
    simp (maxSteps := 1000000) (disch := first | decide | omega | (simp only [go_sem]; first | done | omega)) only [go_sem, Int.reduceToNat, Nat.reduceMul, Nat.reduceAdd, Nat.reduceSub, ↓EU_region, ↓EU_draw, if_neg b1]
    exact ⟨by repeat (first | exact Ext.refl _ | assumption | refine Ext.push ?_ _ | refine Ext.set ?_ _ _ (by first | omega | (simp only [next_push, next_set]; omega))), rfl⟩
  · simp only [decide_eq_true_eq] at b1
    simp (maxSteps := 1000000) (disch := first | decide | omega | (simp only [go_sem]; first | done | omega)) only [go_sem, Int.reduceToNat, Nat.reduceMul, Nat.reduceAdd, Nat.reduceSub, ↓EU_region, ↓EU_draw, if_pos b1]
    exact ⟨by repeat (first | exact Ext.refl _ | assumption | refine Ext.push ?_ _ | refine Ext.set ?_ _ _ (by first | omega | (simp only [next_push, next_set]; omega))), _, rfl, Nat.le_refl _, Nat.lt_succ_self _, by simp (maxSteps := 1000000) (disch := first | decide | omega | (simp only [go_sem]; first | done | omega)) only [go_sem, Int.reduceToNat, Nat.reduceMul, Nat.reduceAdd, Nat.reduceSub, ↓EU_region, ↓EU_draw]⟩
theorem tagT_0 : tagT 0 = 109 := rfl
theorem tagT_1 : tagT 1 = 113 := rfl
theorem tagT_2 : tagT 2 = 116 := rfl
theorem polGood_ev (tag : Int) (h : Heap) : EF Tryz.prog O0 75 [.int .i64 tag] h = some (.bool (tgood tag), h) := by
  have : WPo (EF Tryz.prog O0 75 [.int .i64 tag] h) fun q => q = (.bool (tgood tag), h) := by
    rw [EF_body (O := O0) (by kernel_rfl) Tryz.func75 rfl (rs := [.tmp 2]) rfl (bad := []) (by kernel_rfl) _ _ (m := 9) rfl]
    simp (maxSteps := 1000000) (disch := first | decide | omega | (simp only [go_sem]; first | done | omega)) only [go_sem, Int.reduceToNat, Nat.reduceMul, Nat.reduceAdd, Nat.reduceSub, ↓EU_region, ↓EU_draw]
    repeat' (((repeat refine WPo_ob ?_); (first | refine WPo_cond (fun hb => ?_) (fun hb => ?_) | refine WPo_gard (fun hb => ?_) (fun hb => ?_) | refine WPo_gardT (fun hb => ?_) (fun hb => ?_)) <;> (try simp only [Bool.not_eq_true', Bool.not_eq_false'] at hb)) <;> (simp (maxSteps := 1000000) (disch := first | decide | omega | (simp only [go_sem]; first | done | omega)) only [go_sem, Int.reduceToNat, Nat.reduceMul, Nat.reduceAdd, Nat.reduceSub, ↓EU_region, ↓EU_draw, hb]))
    all_goals simp [tgood, *]
  obtain ⟨q, e, rfl⟩ := this
  exact e
theorem polSeed_ev (tag base cur : Int) (l : List Item) (s : Value) (h : Heap) (hs : SL itemE 3 h s l) (hl : l.length < 900000) :
    WPo (EF Tryz.prog O0 55 [.int .i64 tag, formV cur s, .int .i64 base] h) fun q => Ext h q.2 ∧ if tgood tag && (bgood base && goodF cur l) then ∃ b lb v, q.1 = .tuple ⟨[ptr b 0, .int .i64 0]⟩ ∧ PQ q.2 b lb v tag base cur (l.map (ptI base)) ∧ h.next ≤ b ∧ h.next ≤ lb ∧ Fresh h.next v else q.1 = .tuple ⟨[nilP, .int .i64 1]⟩ := by
  have hS := And.intro (strideSeed_ev base cur l s (h.push (.cells [.int .i64 cur, s] 0)) (hs.ext ((Ext.refl h).push _)) hl) (And.intro (fairSeed_ev base cur l s (h.push (.cells [.int .i64 cur, s] 0)) (hs.ext ((Ext.refl h).push _)) hl) (dueSeed_ev base cur l s (h.push (.cells [.int .i64 cur, s] 0)) (hs.ext ((Ext.refl h).push _)) hl))
  unfold formV at *
  cases ht : tgood tag with
  | false =>
    obtain ⟨t0, t1, t2⟩ := tgood_f ht
    have d0 : decide (tag = 0) = false := decide_eq_false t0
    have d1 : decide (tag = 1) = false := decide_eq_false t1
    have d2 : decide (tag = 2) = false := decide_eq_false t2
    rw [EF_body (O := O0) (by kernel_rfl) Tryz.func55 rfl (rs := [.tmp 6, .tmp 7]) rfl (bad := []) (by kernel_rfl) _ _ (m := 60) rfl]
    simp (maxSteps := 1000000) (disch := first | decide | omega | (simp only [go_sem]; first | done | omega)) only [go_sem, Int.reduceToNat, Nat.reduceMul, Nat.reduceAdd, Nat.reduceSub, ↓EU_region, ↓EU_draw, d0, d1, d2, Bool.false_and, if_false, Bool.false_eq_true]
    exact ⟨by repeat (first | exact Ext.refl _ | assumption | refine Ext.push ?_ _ | refine Ext.set ?_ _ _ (by first | omega | (simp only [next_push, next_set]; omega))), rfl⟩
  | true =>
    have tg0 : decide ((1 : Int) = 0) = false := rfl
    have tg1 : decide ((2 : Int) = 0) = false := rfl
    have tg2 : decide ((2 : Int) = 1) = false := rfl
    rw [EF_body (O := O0) (by kernel_rfl) Tryz.func55 rfl (rs := [.tmp 6, .tmp 7]) rfl (bad := []) (by kernel_rfl) _ _ (m := 60) rfl]
    rcases tgood_c ht with rfl | rfl | rfl
    · simp (maxSteps := 1000000) (disch := first | decide | omega | (simp only [go_sem]; first | done | omega)) only [go_sem, Int.reduceToNat, Nat.reduceMul, Nat.reduceAdd, Nat.reduceSub, ↓EU_region, ↓EU_draw, tg0, tg1, tg2]
      repeat refine WPo_ob ?_
      refine (hS.1).mono ?_
      rintro ⟨w, h1⟩ ⟨x1, k⟩
      have xh : Ext h h1 := ((Ext.refl h).push _).trans x1
      cases hg : (bgood base && goodF cur l) with
      | false =>
        rw [hg, if_neg (by decide)] at k
        simp only at k
        subst k
        unfold nilP
        simp (maxSteps := 1000000) (disch := first | decide | omega | (simp only [go_sem]; first | done | omega)) only [go_sem, Int.reduceToNat, Nat.reduceMul, Nat.reduceAdd, Nat.reduceSub, ↓EU_region, ↓EU_draw, tg0, tg1, tg2]
        repeat refine WPo_ob ?_
        refine (polOf_ev 0 109 nilP 1 h1).mono ?_
        rintro ⟨w, h2⟩ ⟨x2, k⟩
        rw [if_neg (by decide)] at k
        simp only at k
        subst k
        simp (maxSteps := 1000000) (disch := first | decide | omega | (simp only [go_sem]; first | done | omega)) only [go_sem, Int.reduceToNat, Nat.reduceMul, Nat.reduceAdd, Nat.reduceSub, ↓EU_region, ↓EU_draw, Bool.and_false, if_false, Bool.false_eq_true]
        exact ⟨xh.trans x2, rfl⟩
      | true =>
        rw [hg, if_pos rfl] at k
        obtain ⟨lb, v, e, lq, hlb, fv⟩ := k
        simp only at e lq
        subst e
        simp (maxSteps := 1000000) (disch := first | decide | omega | (simp only [go_sem]; first | done | omega)) only [go_sem, Int.reduceToNat, Nat.reduceMul, Nat.reduceAdd, Nat.reduceSub, ↓EU_region, ↓EU_draw, tg0, tg1, tg2]
        repeat refine WPo_ob ?_
        refine (polOf_ev 0 109 (ptr lb 0) 0 h1).mono ?_
        rintro ⟨w, h2⟩ ⟨x2, k⟩
        rw [if_pos rfl] at k
        obtain ⟨b, e, hb, hb2, hg2⟩ := k
        simp only at e hb2 hg2
        subst e
        simp (maxSteps := 1000000) (disch := first | decide | omega | (simp only [go_sem]; first | done | omega)) only [go_sem, Int.reduceToNat, Nat.reduceMul, Nat.reduceAdd, Nat.reduceSub, ↓EU_region, ↓EU_draw, if_true, Bool.and_self]
        exact ⟨xh.trans x2, b, lb, v, rfl, ⟨rfl, hb2, hg2, lq.ext x2⟩, Nat.le_trans xh.le hb, by simp only [next_push] at hlb; omega, fv.mono (by rw [next_push]; omega)⟩
    · simp (maxSteps := 1000000) (disch := first | decide | omega | (simp only [go_sem]; first | done | omega)) only [go_sem, Int.reduceToNat, Nat.reduceMul, Nat.reduceAdd, Nat.reduceSub, ↓EU_region, ↓EU_draw, tg0, tg1, tg2]
      repeat refine WPo_ob ?_
      refine (hS.2.1).mono ?_
      rintro ⟨w, h1⟩ ⟨x1, k⟩
      have xh : Ext h h1 := ((Ext.refl h).push _).trans x1
      cases hg : (bgood base && goodF cur l) with
      | false =>
        rw [hg, if_neg (by decide)] at k
        simp only at k
        subst k
        unfold nilP
        simp (maxSteps := 1000000) (disch := first | decide | omega | (simp only [go_sem]; first | done | omega)) only [go_sem, Int.reduceToNat, Nat.reduceMul, Nat.reduceAdd, Nat.reduceSub, ↓EU_region, ↓EU_draw, tg0, tg1, tg2]
        repeat refine WPo_ob ?_
        refine (polOf_ev 1 113 nilP 1 h1).mono ?_
        rintro ⟨w, h2⟩ ⟨x2, k⟩
        rw [if_neg (by decide)] at k
        simp only at k
        subst k
        simp (maxSteps := 1000000) (disch := first | decide | omega | (simp only [go_sem]; first | done | omega)) only [go_sem, Int.reduceToNat, Nat.reduceMul, Nat.reduceAdd, Nat.reduceSub, ↓EU_region, ↓EU_draw, Bool.and_false, if_false, Bool.false_eq_true]
        exact ⟨xh.trans x2, rfl⟩
      | true =>
        rw [hg, if_pos rfl] at k
        obtain ⟨lb, v, e, lq, hlb, fv⟩ := k
        simp only at e lq
        subst e
        simp (maxSteps := 1000000) (disch := first | decide | omega | (simp only [go_sem]; first | done | omega)) only [go_sem, Int.reduceToNat, Nat.reduceMul, Nat.reduceAdd, Nat.reduceSub, ↓EU_region, ↓EU_draw, tg0, tg1, tg2]
        repeat refine WPo_ob ?_
        refine (polOf_ev 1 113 (ptr lb 0) 0 h1).mono ?_
        rintro ⟨w, h2⟩ ⟨x2, k⟩
        rw [if_pos rfl] at k
        obtain ⟨b, e, hb, hb2, hg2⟩ := k
        simp only at e hb2 hg2
        subst e
        simp (maxSteps := 1000000) (disch := first | decide | omega | (simp only [go_sem]; first | done | omega)) only [go_sem, Int.reduceToNat, Nat.reduceMul, Nat.reduceAdd, Nat.reduceSub, ↓EU_region, ↓EU_draw, if_true, Bool.and_self]
        exact ⟨xh.trans x2, b, lb, v, rfl, ⟨rfl, hb2, hg2, lq.ext x2⟩, Nat.le_trans xh.le hb, by simp only [next_push] at hlb; omega, fv.mono (by rw [next_push]; omega)⟩
    · simp (maxSteps := 1000000) (disch := first | decide | omega | (simp only [go_sem]; first | done | omega)) only [go_sem, Int.reduceToNat, Nat.reduceMul, Nat.reduceAdd, Nat.reduceSub, ↓EU_region, ↓EU_draw, tg0, tg1, tg2]
      repeat refine WPo_ob ?_
      refine (hS.2.2).mono ?_
      rintro ⟨w, h1⟩ ⟨x1, k⟩
      have xh : Ext h h1 := ((Ext.refl h).push _).trans x1
      cases hg : (bgood base && goodF cur l) with
      | false =>
        rw [hg, if_neg (by decide)] at k
        simp only at k
        subst k
        unfold nilP
        simp (maxSteps := 1000000) (disch := first | decide | omega | (simp only [go_sem]; first | done | omega)) only [go_sem, Int.reduceToNat, Nat.reduceMul, Nat.reduceAdd, Nat.reduceSub, ↓EU_region, ↓EU_draw, tg0, tg1, tg2]
        repeat refine WPo_ob ?_
        refine (polOf_ev 2 116 nilP 1 h1).mono ?_
        rintro ⟨w, h2⟩ ⟨x2, k⟩
        rw [if_neg (by decide)] at k
        simp only at k
        subst k
        simp (maxSteps := 1000000) (disch := first | decide | omega | (simp only [go_sem]; first | done | omega)) only [go_sem, Int.reduceToNat, Nat.reduceMul, Nat.reduceAdd, Nat.reduceSub, ↓EU_region, ↓EU_draw, Bool.and_false, if_false, Bool.false_eq_true]
        exact ⟨xh.trans x2, rfl⟩
      | true =>
        rw [hg, if_pos rfl] at k
        obtain ⟨lb, v, e, lq, hlb, fv⟩ := k
        simp only at e lq
        subst e
        simp (maxSteps := 1000000) (disch := first | decide | omega | (simp only [go_sem]; first | done | omega)) only [go_sem, Int.reduceToNat, Nat.reduceMul, Nat.reduceAdd, Nat.reduceSub, ↓EU_region, ↓EU_draw, tg0, tg1, tg2]
        repeat refine WPo_ob ?_
        refine (polOf_ev 2 116 (ptr lb 0) 0 h1).mono ?_
        rintro ⟨w, h2⟩ ⟨x2, k⟩
        rw [if_pos rfl] at k
        obtain ⟨b, e, hb, hb2, hg2⟩ := k
        simp only at e hb2 hg2
        subst e
        simp (maxSteps := 1000000) (disch := first | decide | omega | (simp only [go_sem]; first | done | omega)) only [go_sem, Int.reduceToNat, Nat.reduceMul, Nat.reduceAdd, Nat.reduceSub, ↓EU_region, ↓EU_draw, if_true, Bool.and_self]
        exact ⟨xh.trans x2, b, lb, v, rfl, ⟨rfl, hb2, hg2, lq.ext x2⟩, Nat.le_trans xh.le hb, by simp only [next_push] at hlb; omega, fv.mono (by rw [next_push]; omega)⟩
end Go.Proofs.YtddgcakiceodgaaGreat.EV
