/- Contracts: policy.New, Tag. No condition. -/
import Derived.Test.YtddgcakiceodgaaGreatPol2
namespace Go.Proofs.YtddgcakiceodgaaGreat.EV
open Go Go.Proofs
set_option linter.unusedVariables false
set_option linter.unusedSimpArgs false
set_option maxRecDepth 100000
set_option pp.deepTerms false
set_option pp.deepTerms.threshold 20
theorem polNew_ev (tag base : Int) (h : Heap) :
    WPo (EF Tryz.prog O0 33 [.int .i64 tag, .int .i64 base] h) fun q => Ext h q.2 ∧ if tgood tag && bgood base then ∃ b lb, q.1 = .tuple ⟨[ptr b 0, .int .i64 0]⟩ ∧ PQ q.2 b lb noS tag base (-1) [] ∧ h.next ≤ b ∧ h.next ≤ lb else q.1 = .tuple ⟨[nilP, .int .i64 1]⟩ := by
  cases ht : tgood tag with
  | false =>
    obtain ⟨t0, t1, t2⟩ := tgood_f ht
    have d0 : decide (tag = 0) = false := decide_eq_false t0
    have d1 : decide (tag = 1) = false := decide_eq_false t1
    have d2 : decide (tag = 2) = false := decide_eq_false t2
    rw [EF_body (O := O0) (by kernel_rfl) Tryz.func33 rfl (rs := [.tmp 4, .tmp 5]) rfl (bad := []) (by kernel_rfl) _ _ (m := 55) rfl]
    simp (maxSteps := 1000000) (disch := first | decide | omega | (simp only [go_sem]; first | done | omega)) only [go_sem, Int.reduceToNat, Nat.reduceMul, Nat.reduceAdd, Nat.reduceSub, ↓EU_region, ↓EU_draw, d0, d1, d2, Bool.false_and, if_false, Bool.false_eq_true]
    exact ⟨by repeat (first | exact Ext.refl _ | assumption | refine Ext.push ?_ _ | refine Ext.set ?_ _ _ (by first | omega | (simp only [next_push, next_set]; omega))), rfl⟩
  | true =>
    have tg0 : decide ((1 : Int) = 0) = false := rfl
    have tg1 : decide ((2 : Int) = 0) = false := rfl
    have tg2 : decide ((2 : Int) = 1) = false := rfl
    rw [EF_body (O := O0) (by kernel_rfl) Tryz.func33 rfl (rs := [.tmp 4, .tmp 5]) rfl (bad := []) (by kernel_rfl) _ _ (m := 55) rfl]
    rcases tgood_c ht with rfl | rfl | rfl
    · simp (maxSteps := 1000000) (disch := first | decide | omega | (simp only [go_sem]; first | done | omega)) only [go_sem, Int.reduceToNat, Nat.reduceMul, Nat.reduceAdd, Nat.reduceSub, ↓EU_region, ↓EU_draw, tg0, tg1, tg2]
      repeat refine WPo_ob ?_
      refine (strideNew_ev base h).mono ?_
      rintro ⟨w, h1⟩ ⟨x1, k⟩
      cases hg : bgood base with
      | false =>
        rw [hg, if_neg (by decide)] at k
        simp only at k
        subst k
        unfold nilP
        simp (maxSteps := 1000000) (disch := first | decide | omega | (simp only [go_sem]; first | done | omega)) only [go_sem, Int.reduceToNat, Nat.reduceMul, Nat.reduceAdd, Nat.reduceSub, ↓EU_region, ↓EU_draw, tg0, tg1, tg2]
        repeat refine WPo_ob ?_
        refine (polOf_ev 0 109 nilP 1 h1).mono ?_
        rintro ⟨w, h2⟩ ⟨x2, k⟩
        rw [if_neg (by decide)] at k
        simp only at k
        subst k
        simp (maxSteps := 1000000) (disch := first | decide | omega | (simp only [go_sem]; first | done | omega)) only [go_sem, Int.reduceToNat, Nat.reduceMul, Nat.reduceAdd, Nat.reduceSub, ↓EU_region, ↓EU_draw, Bool.and_false, if_false, Bool.false_eq_true]
        exact ⟨x1.trans x2, rfl⟩
      | true =>
        rw [hg, if_pos rfl] at k
        obtain ⟨lb, e, lq, hlb⟩ := k
        simp only at e lq
        subst e
        simp (maxSteps := 1000000) (disch := first | decide | omega | (simp only [go_sem]; first | done | omega)) only [go_sem, Int.reduceToNat, Nat.reduceMul, Nat.reduceAdd, Nat.reduceSub, ↓EU_region, ↓EU_draw, tg0, tg1, tg2]
        repeat refine WPo_ob ?_
        refine (polOf_ev 0 109 (ptr lb 0) 0 h1).mono ?_
        rintro ⟨w, h2⟩ ⟨x2, k⟩
        rw [if_pos rfl] at k
        obtain ⟨b, e, hb, hb2, hg2⟩ := k
        simp only at e hb2 hg2
        subst e
        simp (maxSteps := 1000000) (disch := first | decide | omega | (simp only [go_sem]; first | done | omega)) only [go_sem, Int.reduceToNat, Nat.reduceMul, Nat.reduceAdd, Nat.reduceSub, ↓EU_region, ↓EU_draw, if_true, Bool.and_self]
        exact ⟨x1.trans x2, b, lb, rfl, ⟨rfl, hb2, hg2, lq.ext x2⟩, Nat.le_trans x1.le hb, hlb⟩
    · simp (maxSteps := 1000000) (disch := first | decide | omega | (simp only [go_sem]; first | done | omega)) only [go_sem, Int.reduceToNat, Nat.reduceMul, Nat.reduceAdd, Nat.reduceSub, ↓EU_region, ↓EU_draw, tg0, tg1, tg2]
      repeat refine WPo_ob ?_
      refine (fairNew_ev base h).mono ?_
      rintro ⟨w, h1⟩ ⟨x1, k⟩
      cases hg : bgood base with
      | false =>
        rw [hg, if_neg (by decide)] at k
        simp only at k
        subst k
        unfold nilP
        simp (maxSteps := 1000000) (disch := first | decide | omega | (simp only [go_sem]; first | done | omega)) only [go_sem, Int.reduceToNat, Nat.reduceMul, Nat.reduceAdd, Nat.reduceSub, ↓EU_region, ↓EU_draw, tg0, tg1, tg2]
        repeat refine WPo_ob ?_
        refine (polOf_ev 1 113 nilP 1 h1).mono ?_
        rintro ⟨w, h2⟩ ⟨x2, k⟩
        rw [if_neg (by decide)] at k
        simp only at k
        subst k
        simp (maxSteps := 1000000) (disch := first | decide | omega | (simp only [go_sem]; first | done | omega)) only [go_sem, Int.reduceToNat, Nat.reduceMul, Nat.reduceAdd, Nat.reduceSub, ↓EU_region, ↓EU_draw, Bool.and_false, if_false, Bool.false_eq_true]
        exact ⟨x1.trans x2, rfl⟩
      | true =>
        rw [hg, if_pos rfl] at k
        obtain ⟨lb, e, lq, hlb⟩ := k
        simp only at e lq
        subst e
        simp (maxSteps := 1000000) (disch := first | decide | omega | (simp only [go_sem]; first | done | omega)) only [go_sem, Int.reduceToNat, Nat.reduceMul, Nat.reduceAdd, Nat.reduceSub, ↓EU_region, ↓EU_draw, tg0, tg1, tg2]
        repeat refine WPo_ob ?_
        refine (polOf_ev 1 113 (ptr lb 0) 0 h1).mono ?_
        rintro ⟨w, h2⟩ ⟨x2, k⟩
        rw [if_pos rfl] at k
        obtain ⟨b, e, hb, hb2, hg2⟩ := k
        simp only at e hb2 hg2
        subst e
        simp (maxSteps := 1000000) (disch := first | decide | omega | (simp only [go_sem]; first | done | omega)) only [go_sem, Int.reduceToNat, Nat.reduceMul, Nat.reduceAdd, Nat.reduceSub, ↓EU_region, ↓EU_draw, if_true, Bool.and_self]
        exact ⟨x1.trans x2, b, lb, rfl, ⟨rfl, hb2, hg2, lq.ext x2⟩, Nat.le_trans x1.le hb, hlb⟩
    · simp (maxSteps := 1000000) (disch := first | decide | omega | (simp only [go_sem]; first | done | omega)) only [go_sem, Int.reduceToNat, Nat.reduceMul, Nat.reduceAdd, Nat.reduceSub, ↓EU_region, ↓EU_draw, tg0, tg1, tg2]
      repeat refine WPo_ob ?_
      refine (dueNew_ev base h).mono ?_
      rintro ⟨w, h1⟩ ⟨x1, k⟩
      cases hg : bgood base with
      | false =>
        rw [hg, if_neg (by decide)] at k
        simp only at k
        subst k
        unfold nilP
        simp (maxSteps := 1000000) (disch := first | decide | omega | (simp only [go_sem]; first | done | omega)) only [go_sem, Int.reduceToNat, Nat.reduceMul, Nat.reduceAdd, Nat.reduceSub, ↓EU_region, ↓EU_draw, tg0, tg1, tg2]
        repeat refine WPo_ob ?_
        refine (polOf_ev 2 116 nilP 1 h1).mono ?_
        rintro ⟨w, h2⟩ ⟨x2, k⟩
        rw [if_neg (by decide)] at k
        simp only at k
        subst k
        simp (maxSteps := 1000000) (disch := first | decide | omega | (simp only [go_sem]; first | done | omega)) only [go_sem, Int.reduceToNat, Nat.reduceMul, Nat.reduceAdd, Nat.reduceSub, ↓EU_region, ↓EU_draw, Bool.and_false, if_false, Bool.false_eq_true]
        exact ⟨x1.trans x2, rfl⟩
      | true =>
        rw [hg, if_pos rfl] at k
        obtain ⟨lb, e, lq, hlb⟩ := k
        simp only at e lq
        subst e
        simp (maxSteps := 1000000) (disch := first | decide | omega | (simp only [go_sem]; first | done | omega)) only [go_sem, Int.reduceToNat, Nat.reduceMul, Nat.reduceAdd, Nat.reduceSub, ↓EU_region, ↓EU_draw, tg0, tg1, tg2]
        repeat refine WPo_ob ?_
        refine (polOf_ev 2 116 (ptr lb 0) 0 h1).mono ?_
        rintro ⟨w, h2⟩ ⟨x2, k⟩
        rw [if_pos rfl] at k
        obtain ⟨b, e, hb, hb2, hg2⟩ := k
        simp only at e hb2 hg2
        subst e
        simp (maxSteps := 1000000) (disch := first | decide | omega | (simp only [go_sem]; first | done | omega)) only [go_sem, Int.reduceToNat, Nat.reduceMul, Nat.reduceAdd, Nat.reduceSub, ↓EU_region, ↓EU_draw, if_true, Bool.and_self]
        exact ⟨x1.trans x2, b, lb, rfl, ⟨rfl, hb2, hg2, lq.ext x2⟩, Nat.le_trans x1.le hb, hlb⟩
theorem polTag_ev (b lb : Nat) (v : Value) (tag base cur : Int) (l : List Pnt) (h : Heap) (q : PQ h b lb v tag base cur l) : EF Tryz.prog O0 37 [ptr b 0] h = some (.int .i64 tag, h) := by
  have : WPo (EF Tryz.prog O0 37 [ptr b 0] h) fun q => q = (.int .i64 tag, h) := by
    have := q.gb
    rw [EF_body (O := O0) (by kernel_rfl) Tryz.func37 rfl (rs := [.tmp 2]) rfl (bad := []) (by kernel_rfl) _ _ (m := 7) rfl]
    simp (maxSteps := 1000000) (disch := first | decide | omega | (simp only [go_sem]; first | done | omega)) only [go_sem, Int.reduceToNat, Nat.reduceMul, Nat.reduceAdd, Nat.reduceSub, ↓EU_region, ↓EU_draw, this]
  obtain ⟨q, e, rfl⟩ := this
  exact e
end Go.Proofs.YtddgcakiceodgaaGreat.EV
