/- CodeBack, plainly. No condition. -/
import Derived.Test.YtmejkljlnlpoaaaCode4
import Derived.Test.YtmejkljlnlpoaaaRowItem
import Derived.Test.YtmejkljlnlpoaaaBytes
namespace Go.Proofs.Ytmejkljlnlpoaaa.EV
open Go Go.Proofs
set_option linter.unusedVariables false
set_option linter.unusedSimpArgs false
set_option maxRecDepth 100000
set_option pp.deepTerms false
set_option pp.deepTerms.threshold 20
theorem law_CodeBack (h : Heap) (tag : Int) (wt : (Lit.int .i64 tag).wf = true) (cf : Int) (wf : (Lit.int .i64 cf).wf = true) (sf : Value) (lf : List Item) (hf : SL itemE 3 h sf lf) (wlf : ∀ z ∈ lf, ItemWf z) (sb : Value) (zb : List Int) (hb0 : SL (intE .u8) 1 h sb zb) (wb : ∀ z ∈ zb, (Lit.int .u8 z).wf = true) (at' : Int) (wat : (Lit.int .i64 at').wf = true) (b : Int) (wby : (Lit.int .u8 b).wf = true) :
    WPo (EF Try.prog O0 6 [.int .i64 tag, formV cf sf, sb, .int .i64 at', .int .u8 b] h) fun q => q.1 = .bool true := by
  have hb := SL_bytes hb0 wb
  generalize zb.map byteZ = lb at hb
  obtain ⟨z, rfl⟩ : ∃ z : UInt8, b = (z.toNat : Int) := ⟨byteZ b, (byteZ_toNat (u8_wf wby)).symm⟩
  rw [EF_body (O := O0) (by kernel_rfl) Try.func6 rfl (rs := [.tmp 10]) rfl (bad := []) (by kernel_rfl) _ _ (m := 120) rfl]
  obtain ⟨af, kf, hv⟩ := hf.val
  subst hv
  obtain ⟨ab, kb, hv⟩ := hb.val
  subst hv
  unfold formV
  simp (maxSteps := 1000000) (disch := first | decide | omega | (simp only [go_sem]; first | done | omega)) only [go_sem, Int.reduceToNat, Nat.reduceMul, Nat.reduceAdd, Nat.reduceSub, ↓EU_region, ↓EU_draw, awake_ev]
  ((repeat refine WPo_ob ?_); (first | refine WPo_cond (fun b1 => ?_) (fun b1 => ?_) | refine WPo_gard (fun b1 => ?_) (fun b1 => ?_) | refine WPo_gardT (fun b1 => ?_) (fun b1 => ?_)) <;> (try simp only [Bool.not_eq_true', Bool.not_eq_false'] at b1))
  · have b1' := b1
    simp only [decide_eq_false_iff_not] at b1'
    simp (maxSteps := 1000000) (disch := first | decide | omega | (simp only [go_sem]; first | done | omega)) only [go_sem, Int.reduceToNat, Nat.reduceMul, Nat.reduceAdd, Nat.reduceSub, ↓EU_region, ↓EU_draw, b1]
    ((repeat refine WPo_ob ?_); (first | refine WPo_cond (fun b2 => ?_) (fun b2 => ?_) | refine WPo_gard (fun b2 => ?_) (fun b2 => ?_) | refine WPo_gardT (fun b2 => ?_) (fun b2 => ?_)) <;> (try simp only [Bool.not_eq_true', Bool.not_eq_false'] at b2))
    · simp (maxSteps := 1000000) (disch := first | decide | omega | (simp only [go_sem]; first | done | omega)) only [go_sem, Int.reduceToNat, Nat.reduceMul, Nat.reduceAdd, Nat.reduceSub, ↓EU_region, ↓EU_draw, b2]
    · have b2' := b2
      simp only [decide_eq_false_iff_not] at b2'
      simp (maxSteps := 1000000) (disch := first | decide | omega | (simp only [go_sem]; first | done | omega)) only [go_sem, Int.reduceToNat, Nat.reduceMul, Nat.reduceAdd, Nat.reduceSub, ↓EU_region, ↓EU_draw, b2]
      repeat refine WPo_ob ?_
      have x0 : Ext h (h.push (.cells [.int .i64 cf, .slice af lf.length kf] 0)) := (Ext.refl h).push _
      refine (cput_ev tag cf lf _ _ (hf.ext x0) (by omega)).mono ?_
      rintro ⟨v1, h1⟩ ⟨x1, k1, k2⟩
      simp only at x1 k1 k2
      have hn1 := x1.le
      rw [next_push] at hn1
      have y1 : Ext h h1 := x0.trans x1
      have hc1 : h1.get h.next = .cells [.int .i64 cf, .slice af lf.length kf] 0 := by rw [x1.old _ (by rw [next_push]; omega)]; exact get_push_new _ _
      cases hg : cgood tag cf lf with
      | false =>
        rw [k1 hg]
        simp (maxSteps := 1000000) (disch := first | decide | omega | (simp only [go_sem]; first | done | omega)) only [go_sem, Int.reduceToNat, Nat.reduceMul, Nat.reduceAdd, Nat.reduceSub, ↓EU_region, ↓EU_draw, dec_t, dec_f]
        repeat refine WPo_ob ?_
        refine (cget_ev lb _ h1 (hb.ext y1) (by omega)).mono ?_
        rintro ⟨v5, h5⟩ ⟨i5, rfl, oi5, fi5, x5⟩
        simp only at oi5 fi5 x5
        obtain ⟨a5, c5, rfl⟩ := oi5.val
        unfold formV
        by_cases q : (getR lb).2.2.2 = 0
        · have q1 := getR_inv q
          have q0 := good_facts (cgood_facts q1.1).2.2
          rw [q]
          simp (maxSteps := 1000000) (disch := first | decide | omega | (simp only [go_sem]; first | done | omega)) only [go_sem, Int.reduceToNat, Nat.reduceMul, Nat.reduceAdd, Nat.reduceSub, ↓EU_region, ↓EU_draw, dec_t, dec_f]
          repeat refine WPo_ob ?_
          refine (cput_ev _ _ _ _ _ ((oi5.ext ((Ext.refl h5).push _)).sl) (by omega)).mono ?_
          rintro ⟨v6, h6⟩ ⟨x6, j1, j2⟩
          simp only at x6 j1 j2
          obtain ⟨u6, rfl, ou6, fu6⟩ := j2 q1.1
          rw [q1.2] at ou6
          have e1 := conv_str fc_un_25 fc_un_9 fc_un_5 ou6.sl
          have e2 := conv_str fc_un_25 fc_un_9 fc_un_5 (hb.ext ((Ext.trans y1 (x5.push _)).trans x6))
          simp (maxSteps := 1000000) (disch := first | decide | omega | (simp only [go_sem]; first | done | omega)) only [go_sem, Int.reduceToNat, Nat.reduceMul, Nat.reduceAdd, Nat.reduceSub, ↓EU_region, ↓EU_draw, dec_t, dec_f, e1, e2]
        · generalize (getR lb).2.2.2 = e at q
          simp (maxSteps := 1000000) (disch := first | decide | omega | (simp only [go_sem]; first | done | omega)) only [go_sem, Int.reduceToNat, Nat.reduceMul, Nat.reduceAdd, Nat.reduceSub, ↓EU_region, ↓EU_draw, dec_t, dec_f]
      | true =>
        obtain ⟨u1, rfl, ou1, fu1⟩ := k2 hg
        have hen := getR_enc hg
        have hsl : (sealN (encF tag cf lf)).length = 13 + 13 * lf.length := by rw [sealN_len, encF_len]; omega
        simp (maxSteps := 1000000) (disch := first | decide | omega | (simp only [go_sem]; first | done | omega)) only [go_sem, Int.reduceToNat, Nat.reduceMul, Nat.reduceAdd, Nat.reduceSub, ↓EU_region, ↓EU_draw, dec_t, dec_f]
        repeat refine WPo_ob ?_
        refine (cget_ev _ u1 h1 ou1.sl (by rw [hsl]; omega)).mono ?_
        rintro ⟨v2, h2⟩ ⟨i2, rfl, oi2, fi2, x2⟩
        rw [hen] at *
        simp only at oi2 fi2 x2
        have ps := same_ev cf cf lf lf i2 (.slice af lf.length kf) (h2.push (.cells [.int .i64 cf, i2] 0)) ((oi2.ext ((Ext.refl h2).push _)).sl) (hf.ext (y1.trans (x2.push _))) (by omega)
        obtain ⟨a2, c2, rfl⟩ := oi2.val
        unfold formV at ps ⊢
        have hc2 : h2.get h.next = .cells [.int .i64 cf, .slice af lf.length kf] 0 := by rw [x2.old _ (by omega)]; exact hc1
        have hn2 := x2.le
        simp (maxSteps := 1000000) (disch := first | decide | omega | (simp only [go_sem]; first | done | omega)) only [go_sem, Int.reduceToNat, Nat.reduceMul, Nat.reduceAdd, Nat.reduceSub, ↓EU_region, ↓EU_draw, dec_t, dec_f, hc2]
        repeat refine WPo_ob ?_
        refine ps.bind fun h3 x3 => ?_
        obtain ⟨a1, c1, rfl⟩ := ou1.val
        rw [hsl] at ou1
        have hn3 := x3.le
        rw [next_push] at hn3
        have y3 : Ext h h3 := y1.trans ((x2.push _).trans x3)
        have hc3 : h3.get h.next = .cells [.int .i64 cf, .slice af lf.length kf] 0 := by rw [x3.old _ (by rw [next_push]; omega), get_push_old _ (by omega)]; exact hc2
        have hsz := size_ev lf.length h3 (by omega)
        have o3 := (ou1.ext x2).ext (((Ext.refl h2).push _).trans x3)
        simp (maxSteps := 1000000) (disch := first | decide | omega | (simp only [go_sem]; first | done | omega)) only [go_sem, Int.reduceToNat, Nat.reduceMul, Nat.reduceAdd, Nat.reduceSub, ↓EU_region, ↓EU_draw, dec_t, dec_f, hc3, hsz, hsl]
        ((repeat refine WPo_ob ?_); (first | refine WPo_cond (fun b3 => ?_) (fun b3 => ?_) | refine WPo_gard (fun b3 => ?_) (fun b3 => ?_) | refine WPo_gardT (fun b3 => ?_) (fun b3 => ?_)) <;> (try simp only [Bool.not_eq_true', Bool.not_eq_false'] at b3))
        · have b3' := b3
          simp only [decide_eq_true_eq] at b3'
          simp (maxSteps := 1000000) (disch := first | decide | omega | (simp only [go_sem]; first | done | omega)) only [go_sem, Int.reduceToNat, Nat.reduceMul, Nat.reduceAdd, Nat.reduceSub, ↓EU_region, ↓EU_draw, dec_t, dec_f, b3, hsl]
          ((repeat refine WPo_ob ?_); (first | refine WPo_cond (fun b4 => ?_) (fun b4 => ?_) | refine WPo_gard (fun b4 => ?_) (fun b4 => ?_) | refine WPo_gardT (fun b4 => ?_) (fun b4 => ?_)) <;> (try simp only [Bool.not_eq_true', Bool.not_eq_false'] at b4))
          · have b4' := b4
            simp only [decide_eq_true_eq] at b4'
            simp (maxSteps := 1000000) (disch := first | decide | omega | (simp only [go_sem]; first | done | omega)) only [go_sem, Int.reduceToNat, Nat.reduceMul, Nat.reduceAdd, Nat.reduceSub, ↓EU_region, ↓EU_draw, dec_t, dec_f, b3, b4, hsl]
            ((repeat refine WPo_ob ?_); (first | refine WPo_cond (fun b5 => ?_) (fun b5 => ?_) | refine WPo_gard (fun b5 => ?_) (fun b5 => ?_) | refine WPo_gardT (fun b5 => ?_) (fun b5 => ?_)) <;> (try simp only [Bool.not_eq_true', Bool.not_eq_false'] at b5))
            · have b5' := b5
              simp only [decide_eq_false_iff_not] at b5'
              obtain ⟨y, hy⟩ : ∃ y, (sealN (encF tag cf lf))[at'.toNat]? = some y := ⟨_, List.getElem?_eq_getElem (by rw [hsl]; omega)⟩
              obtain ⟨B, o, c, cs, e, hB, hcB, hcl, hput⟩ := o3.put byteE_len at'.toNat (y ^^^ z) (by rw [hsl]; omega)
              rw [hsl] at e
              cases e
              obtain ⟨B', o', c', e, _, _, hr⟩ := o3.sl.at hy rfl
              rw [hsl] at e
              cases e
              have hr0 := hr 0 _ rfl
              rw [Nat.add_zero, hcB, rdc1_c] at hr0
              have hyl := y.toNat_lt
              have hzl := z.toNat_lt
              simp (maxSteps := 1000000) (disch := first | decide | omega | (simp only [go_sem]; first | done | omega)) only [go_sem, Int.reduceToNat, Nat.reduceMul, Nat.reduceAdd, Nat.reduceSub, ↓EU_region, ↓EU_draw, dec_t, dec_f, b3, b4, b5, hsl, hr0, hcB]
              have es : splice cs (o + at'.toNat * 1) (byteE (y ^^^ z)) = cs.set (o + at'.toNat * 1) (.int .u8 ((y.toNat ^^^ z.toNat : Nat) : Int)) := by
                show cs.set _ (.int .u8 ((y ^^^ z).toNat : Int)) = _
                rw [UInt8.toNat_xor]
              rw [es] at hput
              have hne : (sealN (encF tag cf lf))[at'.toNat]? ≠ some (y ^^^ z) := by
                rw [hy]
                intro q
                injection q with q
                have q := congrArg UInt8.toNat q
                rw [UInt8.toNat_xor] at q
                have : z.toNat = 0 := by
                  have h1 : z.toNat ^^^ y.toNat = 0 ^^^ y.toNat := by rw [Nat.xor_comm, ← q, Nat.zero_xor]
                  exact xor_inj h1
                omega
              have htn := getR_turned (encF tag cf lf) at'.toNat (y ^^^ z) (by rw [hsl]; omega) hne
              have hBf : h.next ≤ B := by have := fu1 B rfl; rw [next_push] at this; omega
              repeat refine WPo_ob ?_
              refine (cget_ev _ _ _ hput.sl (by rw [List.length_set, hsl]; omega)).mono ?_
              rintro ⟨v4, h4⟩ ⟨i4, rfl, oi4, fi4, x4⟩
              simp only at oi4 fi4 x4
              rw [htn]
              unfold formV
              have y4 : Ext h h4 := (y3.set _ _ hBf).trans x4
              simp (maxSteps := 1000000) (disch := first | decide | omega | (simp only [go_sem]; first | done | omega)) only [go_sem, Int.reduceToNat, Nat.reduceMul, Nat.reduceAdd, Nat.reduceSub, ↓EU_region, ↓EU_draw, dec_t, dec_f]
              repeat refine WPo_ob ?_
              refine (cget_ev lb _ h4 (hb.ext y4) (by omega)).mono ?_
              rintro ⟨v5, h5⟩ ⟨i5, rfl, oi5, fi5, x5⟩
              simp only at oi5 fi5 x5
              obtain ⟨a5, c5, rfl⟩ := oi5.val
              unfold formV
              by_cases q : (getR lb).2.2.2 = 0
              · have q1 := getR_inv q
                have q0 := good_facts (cgood_facts q1.1).2.2
                rw [q]
                simp (maxSteps := 1000000) (disch := first | decide | omega | (simp only [go_sem]; first | done | omega)) only [go_sem, Int.reduceToNat, Nat.reduceMul, Nat.reduceAdd, Nat.reduceSub, ↓EU_region, ↓EU_draw, dec_t, dec_f]
                repeat refine WPo_ob ?_
                refine (cput_ev _ _ _ _ _ ((oi5.ext ((Ext.refl h5).push _)).sl) (by omega)).mono ?_
                rintro ⟨v6, h6⟩ ⟨x6, j1, j2⟩
                simp only at x6 j1 j2
                obtain ⟨u6, rfl, ou6, fu6⟩ := j2 q1.1
                rw [q1.2] at ou6
                have e1 := conv_str fc_un_25 fc_un_9 fc_un_5 ou6.sl
                have e2 := conv_str fc_un_25 fc_un_9 fc_un_5 (hb.ext ((Ext.trans y4 (x5.push _)).trans x6))
                simp (maxSteps := 1000000) (disch := first | decide | omega | (simp only [go_sem]; first | done | omega)) only [go_sem, Int.reduceToNat, Nat.reduceMul, Nat.reduceAdd, Nat.reduceSub, ↓EU_region, ↓EU_draw, dec_t, dec_f, e1, e2]
              · generalize (getR lb).2.2.2 = e at q
                simp (maxSteps := 1000000) (disch := first | decide | omega | (simp only [go_sem]; first | done | omega)) only [go_sem, Int.reduceToNat, Nat.reduceMul, Nat.reduceAdd, Nat.reduceSub, ↓EU_region, ↓EU_draw, dec_t, dec_f]
            · simp (maxSteps := 1000000) (disch := first | decide | omega | (simp only [go_sem]; first | done | omega)) only [go_sem, Int.reduceToNat, Nat.reduceMul, Nat.reduceAdd, Nat.reduceSub, ↓EU_region, ↓EU_draw, dec_t, dec_f, b5]
              repeat refine WPo_ob ?_
              refine (cget_ev lb _ h3 (hb.ext y3) (by omega)).mono ?_
              rintro ⟨v5, h5⟩ ⟨i5, rfl, oi5, fi5, x5⟩
              simp only at oi5 fi5 x5
              obtain ⟨a5, c5, rfl⟩ := oi5.val
              unfold formV
              by_cases q : (getR lb).2.2.2 = 0
              · have q1 := getR_inv q
                have q0 := good_facts (cgood_facts q1.1).2.2
                rw [q]
                simp (maxSteps := 1000000) (disch := first | decide | omega | (simp only [go_sem]; first | done | omega)) only [go_sem, Int.reduceToNat, Nat.reduceMul, Nat.reduceAdd, Nat.reduceSub, ↓EU_region, ↓EU_draw, dec_t, dec_f]
                repeat refine WPo_ob ?_
                refine (cput_ev _ _ _ _ _ ((oi5.ext ((Ext.refl h5).push _)).sl) (by omega)).mono ?_
                rintro ⟨v6, h6⟩ ⟨x6, j1, j2⟩
                simp only at x6 j1 j2
                obtain ⟨u6, rfl, ou6, fu6⟩ := j2 q1.1
                rw [q1.2] at ou6
                have e1 := conv_str fc_un_25 fc_un_9 fc_un_5 ou6.sl
                have e2 := conv_str fc_un_25 fc_un_9 fc_un_5 (hb.ext ((Ext.trans y3 (x5.push _)).trans x6))
                simp (maxSteps := 1000000) (disch := first | decide | omega | (simp only [go_sem]; first | done | omega)) only [go_sem, Int.reduceToNat, Nat.reduceMul, Nat.reduceAdd, Nat.reduceSub, ↓EU_region, ↓EU_draw, dec_t, dec_f, e1, e2]
              · generalize (getR lb).2.2.2 = e at q
                simp (maxSteps := 1000000) (disch := first | decide | omega | (simp only [go_sem]; first | done | omega)) only [go_sem, Int.reduceToNat, Nat.reduceMul, Nat.reduceAdd, Nat.reduceSub, ↓EU_region, ↓EU_draw, dec_t, dec_f]
          · simp (maxSteps := 1000000) (disch := first | decide | omega | (simp only [go_sem]; first | done | omega)) only [go_sem, Int.reduceToNat, Nat.reduceMul, Nat.reduceAdd, Nat.reduceSub, ↓EU_region, ↓EU_draw, dec_t, dec_f, b4]
            repeat refine WPo_ob ?_
            refine (cget_ev lb _ h3 (hb.ext y3) (by omega)).mono ?_
            rintro ⟨v5, h5⟩ ⟨i5, rfl, oi5, fi5, x5⟩
            simp only at oi5 fi5 x5
            obtain ⟨a5, c5, rfl⟩ := oi5.val
            unfold formV
            by_cases q : (getR lb).2.2.2 = 0
            · have q1 := getR_inv q
              have q0 := good_facts (cgood_facts q1.1).2.2
              rw [q]
              simp (maxSteps := 1000000) (disch := first | decide | omega | (simp only [go_sem]; first | done | omega)) only [go_sem, Int.reduceToNat, Nat.reduceMul, Nat.reduceAdd, Nat.reduceSub, ↓EU_region, ↓EU_draw, dec_t, dec_f]
              repeat refine WPo_ob ?_
              refine (cput_ev _ _ _ _ _ ((oi5.ext ((Ext.refl h5).push _)).sl) (by omega)).mono ?_
              rintro ⟨v6, h6⟩ ⟨x6, j1, j2⟩
              simp only at x6 j1 j2
              obtain ⟨u6, rfl, ou6, fu6⟩ := j2 q1.1
              rw [q1.2] at ou6
              have e1 := conv_str fc_un_25 fc_un_9 fc_un_5 ou6.sl
              have e2 := conv_str fc_un_25 fc_un_9 fc_un_5 (hb.ext ((Ext.trans y3 (x5.push _)).trans x6))
              simp (maxSteps := 1000000) (disch := first | decide | omega | (simp only [go_sem]; first | done | omega)) only [go_sem, Int.reduceToNat, Nat.reduceMul, Nat.reduceAdd, Nat.reduceSub, ↓EU_region, ↓EU_draw, dec_t, dec_f, e1, e2]
            · generalize (getR lb).2.2.2 = e at q
              simp (maxSteps := 1000000) (disch := first | decide | omega | (simp only [go_sem]; first | done | omega)) only [go_sem, Int.reduceToNat, Nat.reduceMul, Nat.reduceAdd, Nat.reduceSub, ↓EU_region, ↓EU_draw, dec_t, dec_f]
        · simp (maxSteps := 1000000) (disch := first | decide | omega | (simp only [go_sem]; first | done | omega)) only [go_sem, Int.reduceToNat, Nat.reduceMul, Nat.reduceAdd, Nat.reduceSub, ↓EU_region, ↓EU_draw, dec_t, dec_f, b3]
          repeat refine WPo_ob ?_
          refine (cget_ev lb _ h3 (hb.ext y3) (by omega)).mono ?_
          rintro ⟨v5, h5⟩ ⟨i5, rfl, oi5, fi5, x5⟩
          simp only at oi5 fi5 x5
          obtain ⟨a5, c5, rfl⟩ := oi5.val
          unfold formV
          by_cases q : (getR lb).2.2.2 = 0
          · have q1 := getR_inv q
            have q0 := good_facts (cgood_facts q1.1).2.2
            rw [q]
            simp (maxSteps := 1000000) (disch := first | decide | omega | (simp only [go_sem]; first | done | omega)) only [go_sem, Int.reduceToNat, Nat.reduceMul, Nat.reduceAdd, Nat.reduceSub, ↓EU_region, ↓EU_draw, dec_t, dec_f]
            repeat refine WPo_ob ?_
            refine (cput_ev _ _ _ _ _ ((oi5.ext ((Ext.refl h5).push _)).sl) (by omega)).mono ?_
            rintro ⟨v6, h6⟩ ⟨x6, j1, j2⟩
            simp only at x6 j1 j2
            obtain ⟨u6, rfl, ou6, fu6⟩ := j2 q1.1
            rw [q1.2] at ou6
            have e1 := conv_str fc_un_25 fc_un_9 fc_un_5 ou6.sl
            have e2 := conv_str fc_un_25 fc_un_9 fc_un_5 (hb.ext ((Ext.trans y3 (x5.push _)).trans x6))
            simp (maxSteps := 1000000) (disch := first | decide | omega | (simp only [go_sem]; first | done | omega)) only [go_sem, Int.reduceToNat, Nat.reduceMul, Nat.reduceAdd, Nat.reduceSub, ↓EU_region, ↓EU_draw, dec_t, dec_f, e1, e2]
          · generalize (getR lb).2.2.2 = e at q
            simp (maxSteps := 1000000) (disch := first | decide | omega | (simp only [go_sem]; first | done | omega)) only [go_sem, Int.reduceToNat, Nat.reduceMul, Nat.reduceAdd, Nat.reduceSub, ↓EU_region, ↓EU_draw, dec_t, dec_f]
  · simp (maxSteps := 1000000) (disch := first | decide | omega | (simp only [go_sem]; first | done | omega)) only [go_sem, Int.reduceToNat, Nat.reduceMul, Nat.reduceAdd, Nat.reduceSub, ↓EU_region, ↓EU_draw, b1]
end Go.Proofs.Ytmejkljlnlpoaaa.EV
