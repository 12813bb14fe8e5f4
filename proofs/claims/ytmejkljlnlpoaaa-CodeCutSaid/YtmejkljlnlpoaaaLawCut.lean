/- CodeCut, plainly. No condition. -/
import Derived.Test.YtmejkljlnlpoaaaCode4
import Derived.Test.YtmejkljlnlpoaaaRowItem
import Derived.Test.YtmejkljlnlpoaaaBytes
namespace Go.Proofs.Ytmejkljlnlpoaaa.EV
open Go Go.Proofs
set_option linter.unusedVariables false
set_option linter.unusedSimpArgs false
set_option maxRecDepth 100000
set_option pp.deepTerms false
set_option pp.deepTerms.threshold 20
theorem law_CodeCut (h : Heap) (tag : Int) (wt : (Lit.int .i64 tag).wf = true) (cf : Int) (wf : (Lit.int .i64 cf).wf = true) (sf : Value) (lf : List Item) (hf : SL itemE 3 h sf lf) (wlf : ∀ z ∈ lf, ItemWf z) (n : Int) (wn : (Lit.int .i64 n).wf = true) (sm : Value) (zm : List Int) (hm0 : SL (intE .u8) 1 h sm zm) (wm : ∀ z ∈ zm, (Lit.int .u8 z).wf = true) :
    WPo (EF Try.prog O0 4 [.int .i64 tag, formV cf sf, .int .i64 n, sm] h) fun q => q.1 = .bool true := by
  have hm := SL_bytes hm0 wm
  generalize zm.map byteZ = lm at hm
  rw [EF_body (O := O0) (by kernel_rfl) Try.func4 rfl (rs := [.tmp 8]) rfl (bad := []) (by kernel_rfl) _ _ (m := 87) rfl]
  obtain ⟨af, kf, hv⟩ := hf.val
  subst hv
  obtain ⟨am, km, hv⟩ := hm.val
  subst hv
  unfold formV
  simp (maxSteps := 1000000) (disch := first | decide | omega | (simp only [go_sem]; first | done | omega)) only [go_sem, Int.reduceToNat, Nat.reduceMul, Nat.reduceAdd, Nat.reduceSub, ↓EU_region, ↓EU_draw, awake_ev]
  ((repeat refine WPo_ob ?_); (first | refine WPo_cond (fun b1 => ?_) (fun b1 => ?_) | refine WPo_gard (fun b1 => ?_) (fun b1 => ?_) | refine WPo_gardT (fun b1 => ?_) (fun b1 => ?_)) <;> (try simp only [Bool.not_eq_true', Bool.not_eq_false'] at b1))
  · have b1' := b1
    simp only [decide_eq_false_iff_not] at b1'
    simp (maxSteps := 1000000) (disch := first | decide | omega | (simp only [go_sem]; first | done | omega)) only [go_sem, Int.reduceToNat, Nat.reduceMul, Nat.reduceAdd, Nat.reduceSub, ↓EU_region, ↓EU_draw, b1]
    ((repeat refine WPo_ob ?_); (first | refine WPo_cond (fun b2 => ?_) (fun b2 => ?_) | refine WPo_gard (fun b2 => ?_) (fun b2 => ?_) | refine WPo_gardT (fun b2 => ?_) (fun b2 => ?_)) <;> (try simp only [Bool.not_eq_true', Bool.not_eq_false'] at b2))
    · have b2' := b2
      simp only [decide_eq_false_iff_not] at b2'
      simp (maxSteps := 1000000) (disch := first | decide | omega | (simp only [go_sem]; first | done | omega)) only [go_sem, Int.reduceToNat, Nat.reduceMul, Nat.reduceAdd, Nat.reduceSub, ↓EU_region, ↓EU_draw, b1, b2]
      ((repeat refine WPo_ob ?_); (first | refine WPo_cond (fun b3 => ?_) (fun b3 => ?_) | refine WPo_gard (fun b3 => ?_) (fun b3 => ?_) | refine WPo_gardT (fun b3 => ?_) (fun b3 => ?_)) <;> (try simp only [Bool.not_eq_true', Bool.not_eq_false'] at b3))
      · simp (maxSteps := 1000000) (disch := first | decide | omega | (simp only [go_sem]; first | done | omega)) only [go_sem, Int.reduceToNat, Nat.reduceMul, Nat.reduceAdd, Nat.reduceSub, ↓EU_region, ↓EU_draw, b3]
      · have b3' := b3
        simp only [decide_eq_false_iff_not] at b3'
        simp (maxSteps := 1000000) (disch := first | decide | omega | (simp only [go_sem]; first | done | omega)) only [go_sem, Int.reduceToNat, Nat.reduceMul, Nat.reduceAdd, Nat.reduceSub, ↓EU_region, ↓EU_draw, b3]
        repeat refine WPo_ob ?_
        have x0 : Ext h (h.push (.cells [.int .i64 cf, .slice af lf.length kf] 0)) := (Ext.refl h).push _
        refine (cput_ev tag cf lf _ _ (hf.ext x0) (by omega)).mono ?_
        rintro ⟨v1, h1⟩ ⟨x1, k1, k2⟩
        simp only at x1 k1 k2
        cases hg : cgood tag cf lf with
        | false =>
          rw [k1 hg]
          simp (maxSteps := 1000000) (disch := first | decide | omega | (simp only [go_sem]; first | done | omega)) only [go_sem, Int.reduceToNat, Nat.reduceMul, Nat.reduceAdd, Nat.reduceSub, ↓EU_region, ↓EU_draw, dec_t, dec_f]
        | true =>
          obtain ⟨u1, rfl, ou1, fu1⟩ := k2 hg
          have hen := getR_enc hg
          have hsl : (sealN (encF tag cf lf)).length = 13 + 13 * lf.length := by rw [sealN_len, encF_len]; omega
          obtain ⟨a1, c1, rfl⟩ := ou1.val
          rw [hsl] at ou1
          simp (maxSteps := 1000000) (disch := first | decide | omega | (simp only [go_sem]; first | done | omega)) only [go_sem, Int.reduceToNat, Nat.reduceMul, Nat.reduceAdd, Nat.reduceSub, ↓EU_region, ↓EU_draw, dec_t, dec_f, hsl]
          ((repeat refine WPo_ob ?_); (first | refine WPo_cond (fun b4 => ?_) (fun b4 => ?_) | refine WPo_gard (fun b4 => ?_) (fun b4 => ?_) | refine WPo_gardT (fun b4 => ?_) (fun b4 => ?_)) <;> (try simp only [Bool.not_eq_true', Bool.not_eq_false'] at b4))
          · have b4' := b4
            simp only [decide_eq_false_iff_not] at b4'
            simp (maxSteps := 1000000) (disch := first | decide | omega | (simp only [go_sem]; first | done | omega)) only [go_sem, Int.reduceToNat, Nat.reduceMul, Nat.reduceAdd, Nat.reduceSub, ↓EU_region, ↓EU_draw, b4, hsl]
            ((repeat refine WPo_ob ?_); (first | refine WPo_cond (fun b5 => ?_) (fun b5 => ?_) | refine WPo_gard (fun b5 => ?_) (fun b5 => ?_) | refine WPo_gardT (fun b5 => ?_) (fun b5 => ?_)) <;> (try simp only [Bool.not_eq_true', Bool.not_eq_false'] at b5))
            · simp (maxSteps := 1000000) (disch := first | decide | omega | (simp only [go_sem]; first | done | omega)) only [go_sem, Int.reduceToNat, Nat.reduceMul, Nat.reduceAdd, Nat.reduceSub, ↓EU_region, ↓EU_draw, b5]
            · have b5' := b5
              simp only [decide_eq_false_iff_not] at b5'
              obtain ⟨w1, hw1, sw1, bw1⟩ := cut_to fc_sl_25 ou1.sl .i64 n n.toNat (by omega) (by rw [hsl]; omega)
              simp (maxSteps := 1000000) (disch := first | decide | omega | (simp only [go_sem]; first | done | omega)) only [go_sem, Int.reduceToNat, Nat.reduceMul, Nat.reduceAdd, Nat.reduceSub, ↓EU_region, ↓EU_draw, b4, b5, hsl, hw1]
              repeat refine WPo_ob ?_
              refine (cget_ev _ w1 h1 sw1 (by rw [List.length_take]; omega)).mono ?_
              rintro ⟨v2, h2⟩ ⟨i2, rfl, oi2, fi2, x2⟩
              simp only at oi2 fi2 x2
              have q1 := getR_cut (y := sealN (encF tag cf lf)) (by rw [hen]) n.toNat (by rw [hsl]; omega)
              have q2 := getR_err q1
              rw [q2.1, q2.2.1]
              rw [q2.2.2] at oi2
              generalize (getR ((sealN (encF tag cf lf)).take n.toNat)).2.2.2 = e2 at q1
              obtain ⟨a2, c2, rfl⟩ := oi2.val
              unfold formV
              have ho1 : OW byteE 1 h2 (.slice a1 (13 + 13 * lf.length) c1) (sealN (encF tag cf lf)) := ou1.ext x2
              simp (maxSteps := 1000000) (disch := first | decide | omega | (simp only [go_sem]; first | done | omega)) only [go_sem, Int.reduceToNat, Nat.reduceMul, Nat.reduceAdd, Nat.reduceSub, ↓EU_region, ↓EU_draw]
              repeat refine WPo_ob ?_
              have hA := ho1.ext (((Ext.refl h2).push (.cells [.int .i64 0, .slice a2 ([] : List Item).length c2] 0)).push (.cells [] 1))
              refine append_gr (l := []) (l' := sealN (encF tag cf lf)) fc_ap_25_25 (fun _ => rfl) (by decide) byteE_scal (OW.lit byteE_len (h2.push (.cells [.int .i64 0, .slice a2 ([] : List Item).length c2] 0)) []) hA.sl (by simp only [List.length_nil]; rw [hsl]; omega) (by simp only [List.length_nil]; rw [hsl]; omega) fun v3 h3 ho3 gr3 => ?_
              obtain ⟨x3, f3⟩ := gr3.new' (next_push _ _).symm
              rw [List.nil_append] at ho3
              have hmx := hm.ext (x0.trans (x1.trans (x2.trans (((Ext.refl h2).push (.cells [.int .i64 0, .slice a2 ([] : List Item).length c2] 0)).trans x3))))
              simp (maxSteps := 1000000) (disch := first | decide | omega | (simp only [go_sem]; first | done | omega)) only [go_sem, Int.reduceToNat, Nat.reduceMul, Nat.reduceAdd, Nat.reduceSub, ↓EU_region, ↓EU_draw]
              repeat refine WPo_ob ?_
              refine append_own (h0 := h2.push (.cells [.int .i64 0, .slice a2 ([] : List Item).length c2] 0)) (l := sealN (encF tag cf lf)) (l' := lm) fc_ap_25_25 (fun _ => rfl) (by decide) byteE_scal x3 ho3 f3 hmx (by rw [hsl]; omega) (by rw [hsl]; omega) fun v4 h4 ho4 f4 x4 _ _ => ?_
              have hn4 := x4.le
              rw [next_push] at hn4
              have hc4 : h4.get h2.next = .cells [.int .i64 0, .slice a2 ([] : List Item).length c2] 0 := by rw [x4.old _ (by rw [next_push]; omega)]; exact get_push_new _ _
              simp (maxSteps := 1000000) (disch := first | decide | omega | (simp only [go_sem]; first | done | omega)) only [go_sem, Int.reduceToNat, Nat.reduceMul, Nat.reduceAdd, Nat.reduceSub, ↓EU_region, ↓EU_draw]
              repeat refine WPo_ob ?_
              refine (cget_ev _ v4 h4 ho4.sl (by rw [List.length_append, hsl]; omega)).mono ?_
              rintro ⟨v5, h5⟩ ⟨i5, rfl, oi5, fi5, x5⟩
              simp only at oi5 fi5 x5
              have q3 := getR_more (y := sealN (encF tag cf lf)) (by rw [hen]) lm (by omega)
              have q4 := getR_err q3
              rw [q4.1, q4.2.1]
              rw [q4.2.2] at oi5
              generalize (getR (sealN (encF tag cf lf) ++ lm)).2.2.2 = e5 at q3
              obtain ⟨a5, c5, rfl⟩ := oi5.val
              have hn5 := x5.le
              have hc5 : h5.get h2.next = .cells [.int .i64 0, .slice a2 ([] : List Item).length c2] 0 := by rw [x5.old _ (by omega)]; exact hc4
              unfold formV
              simp (maxSteps := 1000000) (disch := first | decide | omega | (simp only [go_sem]; first | done | omega)) only [go_sem, Int.reduceToNat, Nat.reduceMul, Nat.reduceAdd, Nat.reduceSub, ↓EU_region, ↓EU_draw, dec_t, dec_f, hc5]
          · simp (maxSteps := 1000000) (disch := first | decide | omega | (simp only [go_sem]; first | done | omega)) only [go_sem, Int.reduceToNat, Nat.reduceMul, Nat.reduceAdd, Nat.reduceSub, ↓EU_region, ↓EU_draw, b4]
    · simp (maxSteps := 1000000) (disch := first | decide | omega | (simp only [go_sem]; first | done | omega)) only [go_sem, Int.reduceToNat, Nat.reduceMul, Nat.reduceAdd, Nat.reduceSub, ↓EU_region, ↓EU_draw, b2]
  · simp (maxSteps := 1000000) (disch := first | decide | omega | (simp only [go_sem]; first | done | omega)) only [go_sem, Int.reduceToNat, Nat.reduceMul, Nat.reduceAdd, Nat.reduceSub, ↓EU_region, ↓EU_draw, b1]
end Go.Proofs.Ytmejkljlnlpoaaa.EV
