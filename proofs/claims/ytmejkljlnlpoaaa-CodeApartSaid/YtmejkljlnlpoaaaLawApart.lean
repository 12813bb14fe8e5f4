/- CodeApart, plainly. No condition. -/
import Derived.Test.YtmejkljlnlpoaaaCode2
import Derived.Test.YtmejkljlnlpoaaaRowItem
namespace Go.Proofs.Ytmejkljlnlpoaaa.EV
open Go Go.Proofs
set_option linter.unusedVariables false
set_option linter.unusedSimpArgs false
set_option maxRecDepth 100000
set_option pp.deepTerms false
set_option pp.deepTerms.threshold 20
theorem law_CodeApart (h : Heap) (cf : Int) (wf : (Lit.int .i64 cf).wf = true) (sf : Value) (lf : List Item) (hf : SL itemE 3 h sf lf) (wlf : ∀ z ∈ lf, ItemWf z) (cg : Int) (wg : (Lit.int .i64 cg).wf = true) (sg : Value) (lg : List Item) (hg : SL itemE 3 h sg lg) (wlg : ∀ z ∈ lg, ItemWf z) (a : Int) (wa : (Lit.int .i64 a).wf = true) (b : Int) (wb : (Lit.int .i64 b).wf = true) :
    WPo (EF Try.prog O0 7 [formV cf sf, formV cg sg, .int .i64 a, .int .i64 b] h) fun q => q.1 = .bool true := by
  rw [EF_body (O := O0) (by kernel_rfl) Try.func7 rfl (rs := [.tmp 8]) rfl (bad := [9]) (by kernel_rfl) _ _ (m := 57) rfl]
  obtain ⟨af, kf, hv⟩ := hf.val
  subst hv
  obtain ⟨ag, kg, hv⟩ := hg.val
  subst hv
  unfold formV
  simp (maxSteps := 1000000) (disch := first | decide | omega | (simp only [go_sem]; first | done | omega)) only [go_sem, Int.reduceToNat, Nat.reduceMul, Nat.reduceAdd, Nat.reduceSub, ↓EU_region, ↓EU_draw, awake_ev]
  ((repeat refine WPo_ob ?_); (first | refine WPo_cond (fun b1 => ?_) (fun b1 => ?_) | refine WPo_gard (fun b1 => ?_) (fun b1 => ?_) | refine WPo_gardT (fun b1 => ?_) (fun b1 => ?_)) <;> (try simp only [Bool.not_eq_true', Bool.not_eq_false'] at b1))
  · have b1' := b1
    simp only [decide_eq_false_iff_not] at b1'
    simp (maxSteps := 1000000) (disch := first | decide | omega | (simp only [go_sem]; first | done | omega)) only [go_sem, Int.reduceToNat, Nat.reduceMul, Nat.reduceAdd, Nat.reduceSub, ↓EU_region, ↓EU_draw, b1]
    ((repeat refine WPo_ob ?_); (first | refine WPo_cond (fun b2 => ?_) (fun b2 => ?_) | refine WPo_gard (fun b2 => ?_) (fun b2 => ?_) | refine WPo_gardT (fun b2 => ?_) (fun b2 => ?_)) <;> (try simp only [Bool.not_eq_true', Bool.not_eq_false'] at b2))
    · simp (maxSteps := 1000000) (disch := first | decide | omega | (simp only [go_sem]; first | done | omega)) only [go_sem, Int.reduceToNat, Nat.reduceMul, Nat.reduceAdd, Nat.reduceSub, ↓EU_region, ↓EU_draw, b2]
    · have b2' := b2
      simp only [decide_eq_false_iff_not] at b2'
      simp (maxSteps := 1000000) (disch := first | decide | omega | (simp only [go_sem]; first | done | omega)) only [go_sem, Int.reduceToNat, Nat.reduceMul, Nat.reduceAdd, Nat.reduceSub, ↓EU_region, ↓EU_draw, b1, b2]
      repeat refine WPo_ob ?_
      have x0 : Ext h ((h.push (.cells [.int .i64 cf, .slice af lf.length kf] 0)).push (.cells [.int .i64 cg, .slice ag lg.length kg] 0)) := ((Ext.refl h).push _).push _
      refine (cput_ev a cf lf _ _ (hf.ext x0) (by omega)).mono ?_
      rintro ⟨v1, h1⟩ ⟨x1, k1, k2⟩
      simp only at x1 k1 k2
      have hn1 := x1.le
      simp only [next_push] at hn1
      have o1 := x1.old h.next (by simp only [next_push]; omega)
      have o2 := x1.old (h.next + 1) (by simp only [next_push]; omega)
      have o1' : h1.get h.next = .cells [.int .i64 cf, .slice af lf.length kf] 0 := by rw [o1]; simp (maxSteps := 1000000) (disch := first | decide | omega | (simp only [go_sem]; first | done | omega)) only [go_sem, Int.reduceToNat, Nat.reduceMul, Nat.reduceAdd, Nat.reduceSub, ↓EU_region, ↓EU_draw]
      have o2' : h1.get (h.next + 1) = .cells [.int .i64 cg, .slice ag lg.length kg] 0 := by rw [o2]; simp (maxSteps := 1000000) (disch := first | decide | omega | (simp only [go_sem]; first | done | omega)) only [go_sem, Int.reduceToNat, Nat.reduceMul, Nat.reduceAdd, Nat.reduceSub, ↓EU_region, ↓EU_draw]
      have p2 := cput_ev b cg lg _ h1 (hg.ext (x0.trans x1)) (by omega)
      unfold formV at p2
      cases hga : cgood a cf lf with
      | false =>
        rw [k1 hga]
        simp (maxSteps := 1000000) (disch := first | decide | omega | (simp only [go_sem]; first | done | omega)) only [go_sem, Int.reduceToNat, Nat.reduceMul, Nat.reduceAdd, Nat.reduceSub, ↓EU_region, ↓EU_draw, o1', o2']
        repeat refine WPo_ob ?_
        refine p2.mono ?_
        rintro ⟨v2, h2⟩ ⟨x2, j1, j2⟩
        simp only at x2 j1 j2
        cases hgb : cgood b cg lg with
        | false =>
          rw [j1 hgb]
          simp (maxSteps := 1000000) (disch := first | decide | omega | (simp only [go_sem]; first | done | omega)) only [go_sem, Int.reduceToNat, Nat.reduceMul, Nat.reduceAdd, Nat.reduceSub, ↓EU_region, ↓EU_draw, dec_t, dec_f]
        | true =>
          obtain ⟨u2, rfl, _⟩ := j2 hgb
          simp (maxSteps := 1000000) (disch := first | decide | omega | (simp only [go_sem]; first | done | omega)) only [go_sem, Int.reduceToNat, Nat.reduceMul, Nat.reduceAdd, Nat.reduceSub, ↓EU_region, ↓EU_draw, dec_t, dec_f]
      | true =>
        obtain ⟨u1, rfl, ou1, fu1⟩ := k2 hga
        simp (maxSteps := 1000000) (disch := first | decide | omega | (simp only [go_sem]; first | done | omega)) only [go_sem, Int.reduceToNat, Nat.reduceMul, Nat.reduceAdd, Nat.reduceSub, ↓EU_region, ↓EU_draw, o1', o2']
        repeat refine WPo_ob ?_
        refine p2.mono ?_
        rintro ⟨v2, h2⟩ ⟨x2, j1, j2⟩
        simp only at x2 j1 j2
        have hn2 := x2.le
        cases hgb : cgood b cg lg with
        | false =>
          rw [j1 hgb]
          simp (maxSteps := 1000000) (disch := first | decide | omega | (simp only [go_sem]; first | done | omega)) only [go_sem, Int.reduceToNat, Nat.reduceMul, Nat.reduceAdd, Nat.reduceSub, ↓EU_region, ↓EU_draw, dec_t, dec_f]
        | true =>
          obtain ⟨u2, rfl, ou2, fu2⟩ := j2 hgb
          have e1 := conv_str fc_un_25 fc_un_9 fc_un_5 (ou1.ext x2).sl
          have e2 := conv_str fc_un_25 fc_un_9 fc_un_5 ou2.sl
          have o1'' : h2.get h.next = .cells [.int .i64 cf, .slice af lf.length kf] 0 := by rw [x2.old _ (by omega)]; exact o1'
          have o2'' : h2.get (h.next + 1) = .cells [.int .i64 cg, .slice ag lg.length kg] 0 := by rw [x2.old _ (by omega)]; exact o2'
          have ps := same_ev cf cg lf lg _ _ h2 (hf.ext ((x0.trans x1).trans x2)) (hg.ext ((x0.trans x1).trans x2)) (by omega)
          unfold formV at ps
          have pe := enc_same hga hgb
          simp (maxSteps := 1000000) (disch := first | decide | omega | (simp only [go_sem]; first | done | omega)) only [go_sem, Int.reduceToNat, Nat.reduceMul, Nat.reduceAdd, Nat.reduceSub]
          (first | rw [EU_region] | rw [EU_draw _ _ rfl]); simp (maxSteps := 1000000) (disch := first | decide | omega | (simp only [go_sem]; first | done | omega)) only [go_sem, Int.reduceToNat, Nat.reduceMul, Nat.reduceAdd, Nat.reduceSub]
          rw [EU_bad _ _ rfl, EC_tab (tab := [(false, none), (false, (some (0, 1))), (false, none), (false, (some (0, 1))), (false, none), (false, none), (false, none), (false, none), (false, none), (false, none), (false, none), (true, none), (false, none), (false, none), (false, none)]) (by kernel_rfl)]
          simp (maxSteps := 1000000) (disch := first | decide | omega | (simp only [go_sem]; first | done | omega)) only [go_sem, Int.reduceToNat, Nat.reduceMul, Nat.reduceAdd, Nat.reduceSub, ↓EU_region, ↓EU_draw, o1'', o2'', e1, e2]
          ((repeat refine WPo_ob ?_); (first | refine WPo_cond (fun b3 => ?_) (fun b3 => ?_) | refine WPo_gard (fun b3 => ?_) (fun b3 => ?_) | refine WPo_gardT (fun b3 => ?_) (fun b3 => ?_)) <;> (try simp only [Bool.not_eq_true', Bool.not_eq_false'] at b3))
          · simp (maxSteps := 1000000) (disch := first | decide | omega | (simp only [go_sem]; first | done | omega)) only [go_sem, Int.reduceToNat, Nat.reduceMul, Nat.reduceAdd, Nat.reduceSub, ↓EU_region, ↓EU_draw, o1'', o2'', b3]
            repeat refine WPo_ob ?_
            refine ps.bind fun h3 x3 => ?_
            have e3 := conv_str fc_un_25 fc_un_9 fc_un_5 (ou1.ext (x2.trans x3)).sl
            have e4 := conv_str fc_un_25 fc_un_9 fc_un_5 (ou2.ext x3).sl
            rw [b3, Bool.true_and] at pe
            simp (maxSteps := 1000000) (disch := first | decide | omega | (simp only [go_sem]; first | done | omega)) only [go_sem, Int.reduceToNat, Nat.reduceMul, Nat.reduceAdd, Nat.reduceSub, ↓EU_region, ↓EU_draw, e1, e2, e3, e4]
            simp [pe]
          · rw [b3, Bool.false_and] at pe
            simp (maxSteps := 1000000) (disch := first | decide | omega | (simp only [go_sem]; first | done | omega)) only [go_sem, Int.reduceToNat, Nat.reduceMul, Nat.reduceAdd, Nat.reduceSub, ↓EU_region, ↓EU_draw, b3, e1, e2]
            simp [pe]
  · simp (maxSteps := 1000000) (disch := first | decide | omega | (simp only [go_sem]; first | done | omega)) only [go_sem, Int.reduceToNat, Nat.reduceMul, Nat.reduceAdd, Nat.reduceSub, ↓EU_region, ↓EU_draw, b1]
end Go.Proofs.Ytmejkljlnlpoaaa.EV
