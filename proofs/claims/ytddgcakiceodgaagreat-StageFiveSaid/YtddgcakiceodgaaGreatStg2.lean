/- Contracts: stage.New, (*stage.Try).Step, Abort, Stage, Why, Bytes. No condition. -/
import Derived.Test.YtddgcakiceodgaaGreatStg1
namespace Go.Proofs.YtddgcakiceodgaaGreat.EV
open Go Go.Proofs
set_option linter.unusedVariables false
set_option linter.unusedSimpArgs false
set_option maxRecDepth 100000
set_option pp.deepTerms false
set_option pp.deepTerms.threshold 20
theorem stageNew_ev (cb : Nat) (tag base : Int) (h : Heap) :
    WPo (EF Tryz.prog O0 9 [ptr cb 0, .int .i64 tag, .int .i64 base] h) fun q => Ext h q.2 ∧ if tgood tag && bgood base then ∃ tb, q.1 = .tuple ⟨[ptr tb 0, .int .i64 0]⟩ ∧ h.next ≤ tb ∧ tb < q.2.next ∧ q.2.get tb = .cells (tryL cb tag base 0 0 0 noS nilP fun _ => false) 0 else q.1 = .tuple ⟨[nilP, .int .i64 1]⟩ := by
  rw [EF_body (O := O0) (by kernel_rfl) Tryz.func9 rfl (rs := [.tmp 6, .tmp 7]) rfl (bad := []) (by kernel_rfl) _ _ (m := 26) rfl]
  simp (maxSteps := 1000000) (disch := first | decide | omega | (simp only [go_sem]; first | done | omega)) only [go_sem, Int.reduceToNat, Nat.reduceMul, Nat.reduceAdd, Nat.reduceSub, ↓EU_region, ↓EU_draw]
  repeat refine WPo_ob ?_
  refine (polNew_ev tag base h).mono ?_
  rintro ⟨w, h1⟩ ⟨x1, k⟩
  cases hg : (tgood tag && bgood base) with
  | false =>
    rw [hg, if_neg (by decide)] at k
    simp only at k
    subst k
    unfold nilP
    simp (maxSteps := 1000000) (disch := first | decide | omega | (simp only [go_sem]; first | done | omega)) only [go_sem, Int.reduceToNat, Nat.reduceMul, Nat.reduceAdd, Nat.reduceSub, ↓EU_region, ↓EU_draw, Int.reduceEq, if_false, Bool.false_eq_true]
    exact ⟨x1, trivial⟩
  | true =>
    rw [hg, if_pos rfl] at k
    obtain ⟨b, lb, e, _⟩ := k
    simp only at e
    subst e
    simp (maxSteps := 1000000) (disch := first | decide | omega | (simp only [go_sem]; first | done | omega)) only [go_sem, Int.reduceToNat, Nat.reduceMul, Nat.reduceAdd, Nat.reduceSub, ↓EU_region, ↓EU_draw, if_true]
    exact ⟨x1.push _, _, rfl, x1.le, by omega, by simp (maxSteps := 1000000) (disch := first | decide | omega | (simp only [go_sem]; first | done | omega)) only [go_sem, Int.reduceToNat, Nat.reduceMul, Nat.reduceAdd, Nat.reduceSub, ↓EU_region, ↓EU_draw]; rfl⟩
section
variable {cb tb : Nat} {h : Heap} {tg bs st why age : Int} {bv qv : Value} {f : Nat → Bool}
theorem stageOf_ev (ht : h.get tb = .cells (tryL cb tg bs st why age bv qv f) 0) : EF Tryz.prog O0 21 [ptr tb 0] h = some (.int .i64 st, h) := by
  have : WPo (EF Tryz.prog O0 21 [ptr tb 0] h) fun q => q = (.int .i64 st, h) := by
    unfold tryL at ht
    rw [EF_body (O := O0) (by kernel_rfl) Tryz.func21 rfl (rs := [.tmp 2]) rfl (bad := []) (by kernel_rfl) _ _ (m := 7) rfl]
    simp (maxSteps := 1000000) (disch := first | decide | omega | (simp only [go_sem]; first | done | omega)) only [go_sem, Int.reduceToNat, Nat.reduceMul, Nat.reduceAdd, Nat.reduceSub, ↓EU_region, ↓EU_draw, ht]
  obtain ⟨q, e, rfl⟩ := this
  exact e
theorem stageWhy_ev (ht : h.get tb = .cells (tryL cb tg bs st why age bv qv f) 0) : EF Tryz.prog O0 16 [ptr tb 0] h = some (.int .i64 why, h) := by
  have : WPo (EF Tryz.prog O0 16 [ptr tb 0] h) fun q => q = (.int .i64 why, h) := by
    unfold tryL at ht
    rw [EF_body (O := O0) (by kernel_rfl) Tryz.func16 rfl (rs := [.tmp 2]) rfl (bad := []) (by kernel_rfl) _ _ (m := 7) rfl]
    simp (maxSteps := 1000000) (disch := first | decide | omega | (simp only [go_sem]; first | done | omega)) only [go_sem, Int.reduceToNat, Nat.reduceMul, Nat.reduceAdd, Nat.reduceSub, ↓EU_region, ↓EU_draw, ht]
  obtain ⟨q, e, rfl⟩ := this
  exact e
theorem stageOver_ev (ht : h.get tb = .cells (tryL cb tg bs st why age bv qv f) 0) : EF Tryz.prog O0 34 [ptr tb 0] h = some (.bool (decide (5 ≤ st)), h) := by
  have : WPo (EF Tryz.prog O0 34 [ptr tb 0] h) fun q => q = (.bool (decide (5 ≤ st)), h) := by
    unfold tryL at ht
    rw [EF_body (O := O0) (by kernel_rfl) Tryz.func34 rfl (rs := [.tmp 2]) rfl (bad := []) (by kernel_rfl) _ _ (m := 8) rfl]
    simp (maxSteps := 1000000) (disch := first | decide | omega | (simp only [go_sem]; first | done | omega)) only [go_sem, Int.reduceToNat, Nat.reduceMul, Nat.reduceAdd, Nat.reduceSub, ↓EU_region, ↓EU_draw, ht]
  obtain ⟨q, e, rfl⟩ := this
  exact e
theorem stageFail_ev (ht : h.get tb = .cells (tryL cb tg bs st why age bv qv f) 0) (e : Int) : ∃ v, EF Tryz.prog O0 36 [ptr tb 0, .int .i64 e] h = some (v, h.set tb (.cells (tryL cb tg bs 6 e age bv qv f) 0)) := by
  have : WPo (EF Tryz.prog O0 36 [ptr tb 0, .int .i64 e] h) fun q => q.2 = h.set tb (.cells (tryL cb tg bs 6 e age bv qv f) 0) := by
    unfold tryL at *
    rw [EF_body (O := O0) (by kernel_rfl) Tryz.func36 rfl (rs := []) rfl (bad := []) (by kernel_rfl) _ _ (m := 11) rfl]
    simp (maxSteps := 1000000) (disch := first | decide | omega | (simp only [go_sem]; first | done | omega)) only [go_sem, Int.reduceToNat, Nat.reduceMul, Nat.reduceAdd, Nat.reduceSub, ↓EU_region, ↓EU_draw, ht]
  obtain ⟨⟨v, h1⟩, e, e1⟩ := this
  simp only at e1
  subst e1
  exact ⟨v, e⟩
theorem stageAbort_ev (ht : h.get tb = .cells (tryL cb tg bs st why age bv qv f) 0) : EF Tryz.prog O0 15 [ptr tb 0] h = some (.bool (decide (st < 5)), if 5 ≤ st then h else h.set tb (.cells (tryL cb tg bs 6 13 age bv qv f) 0)) := by
  have : WPo (EF Tryz.prog O0 15 [ptr tb 0] h) fun q => q = (.bool (decide (st < 5)), if 5 ≤ st then h else h.set tb (.cells (tryL cb tg bs 6 13 age bv qv f) 0)) := by
    obtain ⟨v, hf⟩ := stageFail_ev ht 13
    rw [EF_body (O := O0) (by kernel_rfl) Tryz.func15 rfl (rs := [.tmp 2]) rfl (bad := []) (by kernel_rfl) _ _ (m := 7) rfl]
    by_cases q : 5 ≤ st
    · have d1 : decide (5 ≤ st) = true := decide_eq_true q
      have d2 : decide (st < 5) = false := decide_eq_false (by omega)
      simp (maxSteps := 1000000) (disch := first | decide | omega | (simp only [go_sem]; first | done | omega)) only [go_sem, Int.reduceToNat, Nat.reduceMul, Nat.reduceAdd, Nat.reduceSub, ↓EU_region, ↓EU_draw, stageOver_ev ht, d1, d2, if_pos q]
    · have d1 : decide (5 ≤ st) = false := decide_eq_false q
      have d2 : decide (st < 5) = true := decide_eq_true (by omega)
      simp (maxSteps := 1000000) (disch := first | decide | omega | (simp only [go_sem]; first | done | omega)) only [go_sem, Int.reduceToNat, Nat.reduceMul, Nat.reduceAdd, Nat.reduceSub, ↓EU_region, ↓EU_draw, stageOver_ev ht, d1, d2, if_neg q, hf]
  obtain ⟨q, e, rfl⟩ := this
  exact e
theorem stageBytes_ev (ht : h.get tb = .cells (tryL cb tg bs st why age bv qv f) 0) {b : List UInt8} (hs : SL byteE 1 h bv b) (hl : b.length < 900000) : WPo (EF Tryz.prog O0 14 [ptr tb 0] h) fun q => OW byteE 1 q.2 q.1 b ∧ Fresh h.next q.1 ∧ Ext h q.2 := by
  unfold tryL at ht
  obtain ⟨ab, kb, e⟩ := hs.val
  subst e
  rw [EF_body (O := O0) (by kernel_rfl) Tryz.func14 rfl (rs := [.tmp 2]) rfl (bad := []) (by kernel_rfl) _ _ (m := 8) rfl]
  simp (maxSteps := 1000000) (disch := first | decide | omega | (simp only [go_sem]; first | done | omega)) only [go_sem, Int.reduceToNat, Nat.reduceMul, Nat.reduceAdd, Nat.reduceSub, ↓EU_region, ↓EU_draw, ht]
  repeat refine WPo_ob ?_
  refine (clone_ev b _ h hs hl).mono ?_
  rintro ⟨w, h1⟩ ⟨o1, f1, x1⟩
  simp only at o1 f1 x1
  simp (maxSteps := 1000000) (disch := first | decide | omega | (simp only [go_sem]; first | done | omega)) only [go_sem, Int.reduceToNat, Nat.reduceMul, Nat.reduceAdd, Nat.reduceSub, ↓EU_region, ↓EU_draw]
  exact ⟨o1, f1, x1⟩
theorem stepOver_ev (ht : h.get tb = .cells (tryL cb tg bs st why age bv qv f) 0) (ho : 5 ≤ st) : EF Tryz.prog O0 10 [ptr tb 0] h = some (.tuple ⟨[.int .i64 st, .int .i64 why]⟩, h) := by
  have : WPo (EF Tryz.prog O0 10 [ptr tb 0] h) fun q => q = (.tuple ⟨[.int .i64 st, .int .i64 why]⟩, h) := by
    have hO := stageOver_ev ht
    rw [decide_eq_true ho] at hO
    unfold tryL at ht
    rw [EF_body (O := O0) (by kernel_rfl) Tryz.func10 rfl (rs := [.tmp 2, .tmp 3]) rfl (bad := []) (by kernel_rfl) _ _ (m := 35) rfl]
    simp (maxSteps := 1000000) (disch := first | decide | omega | (simp only [go_sem]; first | done | omega)) only [go_sem, Int.reduceToNat, Nat.reduceMul, Nat.reduceAdd, Nat.reduceSub, ↓EU_region, ↓EU_draw, ht, hO]
  obtain ⟨q, e, rfl⟩ := this
  exact e
theorem step_ev (ht : h.get tb = .cells (tryL cb tg bs st why age bv qv f) 0) (h0 : 0 ≤ st) (ho : st < 5) {R Q : Value × Heap → Prop} (hn : WPo (EF Tryz.prog O0 35 [ptr tb 0, .int .i64 (st + 1)] h) R)
    (k : ∀ r, R r → ∃ e age' bv' qv', r.1 = .int .i64 e ∧ r.2.get tb = .cells (tryL cb tg bs st why age' bv' qv' f) 0 ∧ (e = 0 → Q (.tuple ⟨[.int .i64 (st + 1), .int .i64 why]⟩, r.2.set tb (.cells (tryL cb tg bs (st + 1) why age' bv' qv' f) 0))) ∧ (e ≠ 0 → Q (.tuple ⟨[.int .i64 6, .int .i64 e]⟩, r.2.set tb (.cells (tryL cb tg bs 6 e age' bv' qv' f) 0)))) :
    WPo (EF Tryz.prog O0 10 [ptr tb 0] h) Q := by
  have hO := stageOver_ev ht
  rw [decide_eq_false (by omega)] at hO
  have hw : wrapF .i64 (st + 1) = st + 1 := wrap64 (by omega)
  rw [EF_body (O := O0) (by kernel_rfl) Tryz.func10 rfl (rs := [.tmp 2, .tmp 3]) rfl (bad := []) (by kernel_rfl) _ _ (m := 35) rfl]
  have ht' := ht
  unfold tryL at ht'
  simp (maxSteps := 1000000) (disch := first | decide | omega | (simp only [go_sem]; first | done | omega)) only [go_sem, Int.reduceToNat, Nat.reduceMul, Nat.reduceAdd, Nat.reduceSub, ↓EU_region, ↓EU_draw, ht', hO, hw]
  repeat refine WPo_ob ?_
  refine hn.mono ?_
  rintro ⟨w, h1⟩ hr
  obtain ⟨e, age', bv', qv', e1, hg, k1, k2⟩ := k _ hr
  simp only at e1 hg k1 k2
  subst e1
  obtain ⟨vf, hF⟩ := stageFail_ev hg e
  unfold tryL at *
  by_cases q : e = 0
  · subst q
    simp (maxSteps := 1000000) (disch := first | decide | omega | (simp only [go_sem]; first | done | omega)) only [go_sem, Int.reduceToNat, Nat.reduceMul, Nat.reduceAdd, Nat.reduceSub, ↓EU_region, ↓EU_draw, hg, hw]
    exact k1 rfl
  · have hd : decide (e = 0) = false := decide_eq_false q
    simp (maxSteps := 1000000) (disch := first | decide | omega | (simp only [go_sem]; first | done | omega)) only [go_sem, Int.reduceToNat, Nat.reduceMul, Nat.reduceAdd, Nat.reduceSub, ↓EU_region, ↓EU_draw, hd, hF]
    exact k2 q
end
end Go.Proofs.YtddgcakiceodgaaGreat.EV
