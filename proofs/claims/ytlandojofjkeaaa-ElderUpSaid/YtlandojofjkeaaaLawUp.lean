/- ElderUp, plainly. No condition. -/
import Derived.Test.YtlandojofjkeaaaElder7
import Derived.Test.YtlandojofjkeaaaRowItem
import Derived.Test.YtlandojofjkeaaaBytes
namespace Go.Proofs.Ytlandojofjkeaaa.EV
open Go Go.Proofs
set_option linter.unusedVariables false
set_option linter.unusedSimpArgs false
set_option maxRecDepth 100000
set_option pp.deepTerms false
set_option pp.deepTerms.threshold 20
set_option maxHeartbeats 4000000 in
theorem law_ElderUp (h : Heap) (tag : Int) (wt : (Lit.int .i64 tag).wf = true) (cf : Int) (wf : (Lit.int .i64 cf).wf = true) (sf : Value) (lf : List Item) (hf : SL itemE 3 h sf lf) (wlf : ∀ z ∈ lf, ItemWf z) :
    WPo (EF Try.prog O0 5 [.int .i64 tag, formV cf sf] h) fun q => q.1 = .bool true := by
  rw [EF_body (O := O0) (by kernel_rfl) Try.func5 rfl (rs := [.tmp 4]) rfl (bad := []) (by kernel_rfl) _ _ (m := 107) rfl]
  obtain ⟨af, kf, hv⟩ := hf.val
  subst hv
  unfold formV
  simp (maxSteps := 1000000) (disch := first | decide | omega | (simp only [go_sem]; first | done | omega)) only [go_sem, Int.reduceToNat, Nat.reduceMul, Nat.reduceAdd, Nat.reduceSub, ↓EU_region, ↓EU_draw, awake_ev]
  ((repeat refine WPo_ob ?_); (first | refine WPo_cond (fun b1 => ?_) (fun b1 => ?_) | refine WPo_gard (fun b1 => ?_) (fun b1 => ?_) | refine WPo_gardT (fun b1 => ?_) (fun b1 => ?_)) <;> (try simp only [Bool.not_eq_true', Bool.not_eq_false'] at b1))
  · simp (maxSteps := 1000000) (disch := first | decide | omega | (simp only [go_sem]; first | done | omega)) only [go_sem, Int.reduceToNat, Nat.reduceMul, Nat.reduceAdd, Nat.reduceSub, ↓EU_region, ↓EU_draw, b1]
  · have b1' := b1
    simp only [decide_eq_false_iff_not] at b1'
    simp (maxSteps := 1000000) (disch := first | decide | omega | (simp only [go_sem]; first | done | omega)) only [go_sem, Int.reduceToNat, Nat.reduceMul, Nat.reduceAdd, Nat.reduceSub, ↓EU_region, ↓EU_draw, b1]
    repeat refine WPo_ob ?_
    have x0 : Ext h (h.push (.cells [.int .i64 cf, .slice af lf.length kf] 0)) := (Ext.refl h).push _
    refine (cput_ev tag cf lf _ _ (hf.ext x0) (by omega)).mono ?_
    rintro ⟨v1, h1⟩ ⟨x1, k1, k2⟩
    simp only at x1 k1 k2
    have hn1 := x1.le
    rw [next_push] at hn1
    have y1 : Ext h h1 := x0.trans x1
    have hc1 : h1.get h.next = .cells [.int .i64 cf, .slice af lf.length kf] 0 := by rw [x1.old _ (by rw [next_push]; omega)]; exact get_push_new _ _
    have p2 := one_ev tag cf lf _ h1 (hf.ext y1) (by omega)
    cases hg : cgood tag cf lf with
    | false =>
      rw [k1 hg]
      unfold formV at p2
      rw [hg] at p2
      simp only [Bool.false_eq_true, if_false, if_true] at p2
      simp (maxSteps := 1000000) (disch := first | decide | omega | (simp only [go_sem]; first | done | omega)) only [go_sem, Int.reduceToNat, Nat.reduceMul, Nat.reduceAdd, Nat.reduceSub, ↓EU_region, ↓EU_draw, hc1]
      repeat refine WPo_ob ?_
      refine p2.mono ?_
      rintro ⟨v2, h2⟩ ⟨x2, u2, e2, s2⟩
      simp only at x2 e2 s2
      subst e2
      have p3 := two_ev tag cf lf _ h2 (hf.ext (y1.trans x2)) (by omega)
      have hc2 : h2.get h.next = .cells [.int .i64 cf, .slice af lf.length kf] 0 := by rw [x2.old _ (by omega)]; exact hc1
      unfold formV at p3
      rw [hg] at p3
      simp only [Bool.false_eq_true, if_false, if_true] at p3
      simp (maxSteps := 1000000) (disch := first | decide | omega | (simp only [go_sem]; first | done | omega)) only [go_sem, Int.reduceToNat, Nat.reduceMul, Nat.reduceAdd, Nat.reduceSub, ↓EU_region, ↓EU_draw, hc2]
      repeat refine WPo_ob ?_
      refine p3.mono ?_
      rintro ⟨v3, h3⟩ ⟨x3, u3, e3, s3⟩
      simp only at x3 e3 s3
      subst e3
      simp (maxSteps := 1000000) (disch := first | decide | omega | (simp only [go_sem]; first | done | omega)) only [go_sem, Int.reduceToNat, Nat.reduceMul, Nat.reduceAdd, Nat.reduceSub, ↓EU_region, ↓EU_draw, dec_t, dec_f]
    | true =>
      obtain ⟨u1, rfl, ou1, fu1⟩ := k2 hg
      unfold formV at p2
      rw [hg] at p2
      simp only [Bool.false_eq_true, if_false, if_true] at p2
      simp (maxSteps := 1000000) (disch := first | decide | omega | (simp only [go_sem]; first | done | omega)) only [go_sem, Int.reduceToNat, Nat.reduceMul, Nat.reduceAdd, Nat.reduceSub, ↓EU_region, ↓EU_draw, hc1]
      repeat refine WPo_ob ?_
      refine p2.mono ?_
      rintro ⟨v2, h2⟩ ⟨x2, u2, e2, s2⟩
      simp only at x2 e2 s2
      subst e2
      have p3 := two_ev tag cf lf _ h2 (hf.ext (y1.trans x2)) (by omega)
      have hc2 : h2.get h.next = .cells [.int .i64 cf, .slice af lf.length kf] 0 := by rw [x2.old _ (by omega)]; exact hc1
      unfold formV at p3
      rw [hg] at p3
      simp only [Bool.false_eq_true, if_false, if_true] at p3
      simp (maxSteps := 1000000) (disch := first | decide | omega | (simp only [go_sem]; first | done | omega)) only [go_sem, Int.reduceToNat, Nat.reduceMul, Nat.reduceAdd, Nat.reduceSub, ↓EU_region, ↓EU_draw, hc2]
      repeat refine WPo_ob ?_
      refine p3.mono ?_
      rintro ⟨v3, h3⟩ ⟨x3, u3, e3, s3⟩
      simp only at x3 e3 s3
      subst e3
      have ou3 := ou1.ext (x2.trans x3)
      have s2' := s2.ext x3
      have hfl := encF_len tag cf lf
      have hl3 : (sealN (encF tag cf lf)).length < 600000 := by rw [sealN_len]; omega
      have hl2 : (sealN (encV2 tag cf lf)).length < 600000 := by rw [sealN_len]; unfold encV2; rw [List.length_append, preV2_len, flatMap_len2]; omega
      have hl1 : (sealN (encV1 tag lf)).length < 600000 := by rw [sealN_len]; unfold encV1; rw [List.length_append, flatMap_len1]; simp only [List.length_cons, List.length_nil]; omega
      cases hc : can1 cf lf with
      | true =>
        rw [hc] at s2'
        simp only [Bool.false_eq_true, if_false, if_true] at s2' ⊢
        have hcb := can1_2 hc
        rw [hcb] at s3 ⊢
        simp only [Bool.false_eq_true, if_false, if_true] at s3 ⊢
        have hup := upR_enc1 hg hc
        simp (maxSteps := 1000000) (disch := first | decide | omega | (simp only [go_sem]; first | done | omega)) only [go_sem, Int.reduceToNat, Nat.reduceMul, Nat.reduceAdd, Nat.reduceSub, ↓EU_region, ↓EU_draw, dec_t, dec_f, hcb]
        repeat refine WPo_ob ?_
        refine (up_ev _ u2 h3 (s2') (by omega)).mono ?_
        rintro ⟨v, h4⟩ ⟨u4, rfl, su4, xu4⟩
        rw [hup] at *
        simp only at su4 xu4
        have e1 := conv_str fc_un_22 fc_un_9 fc_un_5 (ou3.ext xu4).sl
        have e2 := conv_str fc_un_22 fc_un_9 fc_un_5 su4
        have hup2 := upR_enc2 hg hcb
        simp (maxSteps := 1000000) (disch := first | decide | omega | (simp only [go_sem]; first | done | omega)) only [go_sem, Int.reduceToNat, Nat.reduceMul, Nat.reduceAdd, Nat.reduceSub, ↓EU_region, ↓EU_draw, dec_t, dec_f, e1, e2, hcb]
        repeat refine WPo_ob ?_
        refine (up_ev _ u3 h4 (s3.ext xu4) (by omega)).mono ?_
        rintro ⟨v, h5⟩ ⟨u5, rfl, su5, xu5⟩
        rw [hup2] at *
        simp only at su5 xu5
        have e3 := conv_str fc_un_22 fc_un_9 fc_un_5 (ou3.ext (xu4.trans xu5)).sl
        have e4 := conv_str fc_un_22 fc_un_9 fc_un_5 su5
        have hup3 := upR_enc3 hg
        simp (maxSteps := 1000000) (disch := first | decide | omega | (simp only [go_sem]; first | done | omega)) only [go_sem, Int.reduceToNat, Nat.reduceMul, Nat.reduceAdd, Nat.reduceSub, ↓EU_region, ↓EU_draw, dec_t, dec_f, e3, e4]
        repeat refine WPo_ob ?_
        refine (up_ev _ u1 h5 ((ou3.ext (xu4.trans xu5)).sl) (by omega)).mono ?_
        rintro ⟨v, h6⟩ ⟨u6, rfl, su6, xu6⟩
        rw [hup3] at *
        simp only at su6 xu6
        have e5 := conv_str fc_un_22 fc_un_9 fc_un_5 (ou3.ext ((xu4.trans xu5).trans xu6)).sl
        have e6 := conv_str fc_un_22 fc_un_9 fc_un_5 su6
        simp (maxSteps := 1000000) (disch := first | decide | omega | (simp only [go_sem]; first | done | omega)) only [go_sem, Int.reduceToNat, Nat.reduceMul, Nat.reduceAdd, Nat.reduceSub, ↓EU_region, ↓EU_draw, dec_t, dec_f, e5, e6]
      | false =>
        cases hcb : can2 cf lf with
        | true =>
          rw [hcb] at s3
          simp only [Bool.false_eq_true, if_false, if_true] at s3 ⊢
          have hup2 := upR_enc2 hg hcb
          simp (maxSteps := 1000000) (disch := first | decide | omega | (simp only [go_sem]; first | done | omega)) only [go_sem, Int.reduceToNat, Nat.reduceMul, Nat.reduceAdd, Nat.reduceSub, ↓EU_region, ↓EU_draw, dec_t, dec_f, hcb]
          repeat refine WPo_ob ?_
          refine (up_ev _ u3 h3 (s3) (by omega)).mono ?_
          rintro ⟨v, h5⟩ ⟨u5, rfl, su5, xu5⟩
          rw [hup2] at *
          simp only at su5 xu5
          have e3 := conv_str fc_un_22 fc_un_9 fc_un_5 (ou3.ext xu5).sl
          have e4 := conv_str fc_un_22 fc_un_9 fc_un_5 su5
          have hup3 := upR_enc3 hg
          simp (maxSteps := 1000000) (disch := first | decide | omega | (simp only [go_sem]; first | done | omega)) only [go_sem, Int.reduceToNat, Nat.reduceMul, Nat.reduceAdd, Nat.reduceSub, ↓EU_region, ↓EU_draw, dec_t, dec_f, e3, e4]
          repeat refine WPo_ob ?_
          refine (up_ev _ u1 h5 ((ou3.ext xu5).sl) (by omega)).mono ?_
          rintro ⟨v, h6⟩ ⟨u6, rfl, su6, xu6⟩
          rw [hup3] at *
          simp only at su6 xu6
          have e5 := conv_str fc_un_22 fc_un_9 fc_un_5 (ou3.ext (xu5.trans xu6)).sl
          have e6 := conv_str fc_un_22 fc_un_9 fc_un_5 su6
          simp (maxSteps := 1000000) (disch := first | decide | omega | (simp only [go_sem]; first | done | omega)) only [go_sem, Int.reduceToNat, Nat.reduceMul, Nat.reduceAdd, Nat.reduceSub, ↓EU_region, ↓EU_draw, dec_t, dec_f, e5, e6]
        | false =>
          simp only [Bool.false_eq_true, if_false, if_true]
          have hup3 := upR_enc3 hg
          simp (maxSteps := 1000000) (disch := first | decide | omega | (simp only [go_sem]; first | done | omega)) only [go_sem, Int.reduceToNat, Nat.reduceMul, Nat.reduceAdd, Nat.reduceSub, ↓EU_region, ↓EU_draw, dec_t, dec_f, hcb]
          repeat refine WPo_ob ?_
          refine (up_ev _ u1 h3 (ou3.sl) (by omega)).mono ?_
          rintro ⟨v, h6⟩ ⟨u6, rfl, su6, xu6⟩
          rw [hup3] at *
          simp only at su6 xu6
          have e5 := conv_str fc_un_22 fc_un_9 fc_un_5 (ou3.ext xu6).sl
          have e6 := conv_str fc_un_22 fc_un_9 fc_un_5 su6
          simp (maxSteps := 1000000) (disch := first | decide | omega | (simp only [go_sem]; first | done | omega)) only [go_sem, Int.reduceToNat, Nat.reduceMul, Nat.reduceAdd, Nat.reduceSub, ↓EU_region, ↓EU_draw, dec_t, dec_f, e5, e6]
end Go.Proofs.Ytlandojofjkeaaa.EV
