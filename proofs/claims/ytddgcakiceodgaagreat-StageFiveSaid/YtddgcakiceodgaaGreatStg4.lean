/- The statements' fill. No condition. -/
import Derived.Test.YtddgcakiceodgaaGreatStg3
namespace Go.Proofs.YtddgcakiceodgaaGreat.EV
open Go Go.Proofs
set_option linter.unusedVariables false
set_option linter.unusedSimpArgs false
set_option maxRecDepth 100000
set_option pp.deepTerms false
set_option pp.deepTerms.threshold 20
theorem fill_ev (tag cur : Int) (l : List Item) (s : Value) (h : Heap) (hs : SL itemE 3 h s l) (hl : l.length < 900000) :
    WPo (EF Tryz.prog O0 8 [.int .i64 tag, formV cur s] h) fun q => Ext h q.2 ∧ if tgood tag && goodF cur l then ∃ cb qb lb mb v, q.1 = ptr cb 0 ∧ CQ q.2 cb qb lb mb v tag 0 cur (l.map (ptI 0)) 0 0 ∧ h.next ≤ cb ∧ h.next ≤ qb ∧ h.next ≤ lb ∧ h.next ≤ mb ∧ Fresh h.next v else q.1 = nilP := by
  have hS := coreSeed_ev tag 0 cur l s (h.push (.cells [.int .i64 cur, s] 0)) (hs.ext ((Ext.refl h).push _)) hl
  rw [show bgood 0 = true by decide, Bool.true_and] at hS
  unfold formV at *
  rw [EF_body (O := O0) (by kernel_rfl) Tryz.func8 rfl (rs := [.tmp 4]) rfl (bad := []) (by kernel_rfl) _ _ (m := 16) rfl]
  simp (maxSteps := 1000000) (disch := first | decide | omega | (simp only [go_sem]; first | done | omega)) only [go_sem, Int.reduceToNat, Nat.reduceMul, Nat.reduceAdd, Nat.reduceSub, ↓EU_region, ↓EU_draw]
  repeat refine WPo_ob ?_
  refine hS.mono ?_
  rintro ⟨w, h1⟩ ⟨x1, k⟩
  have xh : Ext h h1 := ((Ext.refl h).push _).trans x1
  cases hg : (tgood tag && goodF cur l) with
  | false =>
    rw [hg, if_neg (by decide)] at k
    simp only at k
    subst k
    unfold nilP
    simp (maxSteps := 1000000) (disch := first | decide | omega | (simp only [go_sem]; first | done | omega)) only [go_sem, Int.reduceToNat, Nat.reduceMul, Nat.reduceAdd, Nat.reduceSub, ↓EU_region, ↓EU_draw, Int.reduceEq, if_false, Bool.false_eq_true]
    exact ⟨xh, trivial⟩
  | true =>
    rw [hg, if_pos rfl] at k
    obtain ⟨cb, qb, lb, mb, v, e, cq, h1, h2, h3, h4, fv⟩ := k
    simp only at e cq
    simp only [next_push] at h1 h2 h3 h4 fv
    subst e
    simp (maxSteps := 1000000) (disch := first | decide | omega | (simp only [go_sem]; first | done | omega)) only [go_sem, Int.reduceToNat, Nat.reduceMul, Nat.reduceAdd, Nat.reduceSub, ↓EU_region, ↓EU_draw, if_true]
    exact ⟨xh, cb, qb, lb, mb, v, rfl, cq, by omega, by omega, by omega, by omega, fv.mono (by omega)⟩
end Go.Proofs.YtddgcakiceodgaaGreat.EV
