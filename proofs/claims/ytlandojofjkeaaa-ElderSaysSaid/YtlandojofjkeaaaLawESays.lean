/- ElderSays, plainly. No condition. -/
import Derived.Test.YtlandojofjkeaaaElder9
import Derived.Test.YtlandojofjkeaaaOwn
import Derived.Test.YtlandojofjkeaaaRowItem
import Derived.Test.YtlandojofjkeaaaBytes
namespace Go.Proofs.Ytlandojofjkeaaa.EV
open Go Go.Proofs
set_option linter.unusedVariables false
set_option linter.unusedSimpArgs false
set_option maxRecDepth 100000
set_option pp.deepTerms false
set_option pp.deepTerms.threshold 20
theorem rup_ev (l : List UInt8) (s : Value) (h : Heap) (hs : SL byteE 1 h s l) (hl : l.length < 600000) :
    WPo (EF Try.prog O0 16 [s] h) fun q => ∃ u, q.1 = .tuple ⟨[u, .int .i64 (upR l).2]⟩ ∧ SL byteE 1 q.2 u (upR l).1 ∧ Ext h q.2 := by
  rw [EF_body (O := O0) (by kernel_rfl) Try.func16 rfl (rs := [.tmp 2, .tmp 3]) rfl (bad := []) (by kernel_rfl) _ _ (m := 28) rfl]
  simp (maxSteps := 1000000) (disch := first | decide | omega | (simp only [go_sem]; first | done | omega)) only [go_sem, Int.reduceToNat, Nat.reduceMul, Nat.reduceAdd, Nat.reduceSub, ↓EU_region, ↓EU_draw]
  repeat refine WPo_ob ?_
  refine (rread_ev l s _ hs (by omega)).mono ?_
  rintro ⟨w, h1⟩ ⟨v, rfl, hov, hfv, x1⟩
  simp only at hov hfv x1
  obtain ⟨a, c, rfl⟩ := hov.val
  unfold formV
  by_cases qe : (readR l).2.2.2.2 = 0
  · have hde : decide ((readR l).2.2.2.2 = 0) = true := decide_eq_true qe
    by_cases q3 : (readR l).1 = 3
    · have hd3 : decide ((readR l).1 = 3) = true := decide_eq_true q3
      have hU : upR l = (l, 0) := by unfold upR; rw [if_neg (by omega), if_pos q3]
      rw [hU]
      simp (maxSteps := 1000000) (disch := first | decide | omega | (simp only [go_sem]; first | done | omega)) only [go_sem, Int.reduceToNat, Nat.reduceMul, Nat.reduceAdd, Nat.reduceSub, ↓EU_region, ↓EU_draw, hde, hd3]
      repeat refine WPo_ob ?_
      have x2 := x1.push (.cells [.int .i64 (readR l).2.2.1, .slice a (readR l).2.2.2.1.length c] 0)
      refine append_own (h0 := h) (l := []) (l' := l) fc_ap_22_22 (fun _ => rfl) (by decide) byteE_scal (x2.push _) (OW.lit byteE_len _ []) (Fresh.mk _ _ _ x2.le) (hs.ext (x2.push _)) (by simp; omega) (by simp; omega) fun v h2 ho hf x2 _ _ => ?_
      simp (maxSteps := 1000000) (disch := first | decide | omega | (simp only [go_sem]; first | done | omega)) only [go_sem, Int.reduceToNat, Nat.reduceMul, Nat.reduceAdd, Nat.reduceSub, ↓EU_region, ↓EU_draw]
      exact ⟨_, rfl, ho.sl, x2⟩
    · have hd3 : decide ((readR l).1 = 3) = false := decide_eq_false q3
      have hU : upR l = (sealN (encF (readR l).2.1 (readR l).2.2.1 (readR l).2.2.2.1), 0) := by unfold upR; rw [if_neg (by omega), if_neg q3]
      rw [hU]
      have hg := readR_good qe
      have hgi := good_facts (cgood_facts hg).2.2
      have hw := rwrite3_ev (readR l).2.1 (readR l).2.2.1 (readR l).2.2.2.1 _ (h1.push (.cells [.int .i64 (readR l).2.2.1, .slice a (readR l).2.2.2.1.length c] 0)) ((hov.ext ((Ext.refl h1).push _)).sl) (by omega)
      unfold formV at hw
      simp (maxSteps := 1000000) (disch := first | decide | omega | (simp only [go_sem]; first | done | omega)) only [go_sem, Int.reduceToNat, Nat.reduceMul, Nat.reduceAdd, Nat.reduceSub, ↓EU_region, ↓EU_draw, hde, hd3]
      repeat refine WPo_ob ?_
      refine hw.mono ?_
      rintro ⟨v3, h3⟩ ⟨x3, _, k3⟩
      simp only at x3 k3
      obtain ⟨u, rfl, ou, _⟩ := k3 hg
      simp (maxSteps := 1000000) (disch := first | decide | omega | (simp only [go_sem]; first | done | omega)) only [go_sem, Int.reduceToNat, Nat.reduceMul, Nat.reduceAdd, Nat.reduceSub, ↓EU_region, ↓EU_draw]
      exact ⟨_, rfl, ou.sl, (x1.push _).trans x3⟩
  · have hde : decide ((readR l).2.2.2.2 = 0) = false := decide_eq_false qe
    have hU := upR_err qe
    rw [hU]
    simp (maxSteps := 1000000) (disch := first | decide | omega | (simp only [go_sem]; first | done | omega)) only [go_sem, Int.reduceToNat, Nat.reduceMul, Nat.reduceAdd, Nat.reduceSub, ↓EU_region, ↓EU_draw, hde]
    exact ⟨_, rfl, SL.nil, x1.push _⟩
set_option maxHeartbeats 8000000 in
theorem law_ElderSays (h : Heap) (tag : Int) (wt : (Lit.int .i64 tag).wf = true) (cf : Int) (wf : (Lit.int .i64 cf).wf = true) (sf : Value) (lf : List Item) (hf : SL itemE 3 h sf lf) (wlf : ∀ z ∈ lf, ItemWf z) (sb : Value) (zb : List Int) (hb0 : SL (intE .u8) 1 h sb zb) (wb : ∀ z ∈ zb, (Lit.int .u8 z).wf = true) :
    WPo (EF Try.prog O0 4 [.int .i64 tag, formV cf sf, sb] h) fun q => q.1 = .bool true := by
  have hb := SL_bytes hb0 wb
  generalize zb.map byteZ = lb at hb
  rw [EF_body (O := O0) (by kernel_rfl) Try.func4 rfl (rs := [.tmp 6]) rfl (bad := [14]) (by kernel_rfl) _ _ (m := 141) rfl]
  obtain ⟨af, kf, hv⟩ := hf.val
  subst hv
  obtain ⟨ab, kb, hv⟩ := hb.val
  subst hv
  unfold formV
  simp (maxSteps := 1000000) (disch := first | decide | omega | (simp only [go_sem]; first | done | omega)) only [go_sem, Int.reduceToNat, Nat.reduceMul, Nat.reduceAdd, Nat.reduceSub, ↓EU_region, ↓EU_draw, awake_ev]
  ((repeat refine WPo_ob ?_); (first | refine WPo_cond (fun b1 => ?_) (fun b1 => ?_) | refine WPo_gard (fun b1 => ?_) (fun b1 => ?_) | refine WPo_gardT (fun b1 => ?_) (fun b1 => ?_)) <;> (try simp only [Bool.not_eq_true', Bool.not_eq_false'] at b1))
  · have b1' := b1
    simp only [decide_eq_false_iff_not] at b1'
    simp (maxSteps := 1000000) (disch := first | decide | omega | (simp only [go_sem]; first | done | omega)) only [go_sem, Int.reduceToNat, Nat.reduceMul, Nat.reduceAdd, Nat.reduceSub, ↓EU_region, ↓EU_draw, b1]
    ((repeat refine WPo_ob ?_); (first | refine WPo_cond (fun b2 => ?_) (fun b2 => ?_) | refine WPo_gard (fun b2 => ?_) (fun b2 => ?_) | refine WPo_gardT (fun b2 => ?_) (fun b2 => ?_)) <;> (try simp only [Bool.not_eq_true', Bool.not_eq_false'] at b2))
    · simp (maxSteps := 1000000) (disch := first | decide | omega | (simp only [go_sem]; first | done | omega)) only [go_sem, Int.reduceToNat, Nat.reduceMul, Nat.reduceAdd, Nat.reduceSub, ↓EU_region, ↓EU_draw, b2]
    · have b2' := b2
      simp only [decide_eq_false_iff_not] at b2'
      simp (maxSteps := 1000000) (disch := first | decide | omega | (simp only [go_sem]; first | done | omega)) only [go_sem, Int.reduceToNat, Nat.reduceMul, Nat.reduceAdd, Nat.reduceSub, ↓EU_region, ↓EU_draw, b2]
      repeat refine WPo_ob ?_
      have x0 : Ext h (h.push (.cells [.int .i64 cf, .slice af lf.length kf] 0)) := (Ext.refl h).push _
      refine (own_ev cf lf _ _ (hf.ext x0) (by omega)).mono ?_
      rintro ⟨v1, h1⟩ ⟨i1, rfl, o1, f1, x1⟩
      simp only at o1 f1 x1
      obtain ⟨a1, c1, rfl⟩ := o1.val
      unfold formV
      have hn1 := x1.le
      rw [next_push] at hn1
      have hF1 : h1.get h.next = .cells [.int .i64 cf, .slice af lf.length kf] 0 := by rw [x1.old _ (by rw [next_push]; omega)]; exact get_push_new _ _
      have y1 : Ext h (h1.push (.cells [.int .i64 cf, .slice a1 lf.length c1] 0)) := (x0.trans x1).push _
      have hW1 : (h1.push (.cells [.int .i64 cf, .slice a1 lf.length c1] 0)).get h1.next = .cells [.int .i64 cf, .slice a1 lf.length c1] 0 := get_push_new _ _
      have hF1' : (h1.push (.cells [.int .i64 cf, .slice a1 lf.length c1] 0)).get h.next = .cells [.int .i64 cf, .slice af lf.length kf] 0 := by rw [get_push_old _ (by omega)]; exact hF1
      have o1' := o1.ext ((Ext.refl h1).push (.cells [.int .i64 cf, .slice a1 lf.length c1] 0))
      have hnW : h1.next < (h1.push (.cells [.int .i64 cf, .slice a1 lf.length c1] 0)).next := by rw [next_push]; omega
      simp (maxSteps := 1000000) (disch := first | decide | omega | (simp only [go_sem]; first | done | omega)) only [go_sem, Int.reduceToNat, Nat.reduceMul, Nat.reduceAdd, Nat.reduceSub, ↓EU_region, ↓EU_draw]
      generalize h1.push (.cells [.int .i64 cf, .slice a1 lf.length c1] 0) = h2 at *
      obtain ⟨E1, hE1⟩ : ∃ E, (if cgood tag cf lf = true then if can1 cf lf = true then (0 : Int) else 7 else 1) = E := ⟨_, rfl⟩
      obtain ⟨B1, hB1⟩ : ∃ E, (if cgood tag cf lf = true then if can1 cf lf = true then sealN (encV1 tag lf) else [] else []) = E := ⟨_, rfl⟩
      obtain ⟨E2, hE2⟩ : ∃ E, (if cgood tag cf lf = true then if can2 cf lf = true then (0 : Int) else 7 else 1) = E := ⟨_, rfl⟩
      obtain ⟨B2, hB2⟩ : ∃ E, (if cgood tag cf lf = true then if can2 cf lf = true then sealN (encV2 tag cf lf) else [] else []) = E := ⟨_, rfl⟩
      have p := one_ev tag cf lf _ h2 (hf.ext y1) (by omega)
      unfold formV at p
      rw [hE1, hB1] at p
      simp (maxSteps := 1000000) (disch := first | decide | omega | (simp only [go_sem]; first | done | omega)) only [go_sem, Int.reduceToNat, Nat.reduceMul, Nat.reduceAdd, Nat.reduceSub, ↓EU_region, ↓EU_draw, hF1]
      repeat refine WPo_ob ?_
      refine p.mono ?_
      clear p
      rintro ⟨v, h3⟩ ⟨x3, u3, e3, s3⟩
      simp only at x3 e3 s3
      subst e3
      have y3 := y1.trans x3
      have z3 := x3
      have hW3 := hW1; rw [← z3.old _ hnW] at hW3
      have hF3 := hF1'; rw [← z3.old _ (by omega)] at hF3
      have p := rwrite1_ev tag cf lf _ h3 ((o1'.ext z3).sl) (by omega)
      unfold formV at p
      rw [hE1, hB1] at p
      simp (maxSteps := 1000000) (disch := first | decide | omega | (simp only [go_sem]; first | done | omega)) only [go_sem, Int.reduceToNat, Nat.reduceMul, Nat.reduceAdd, Nat.reduceSub, ↓EU_region, ↓EU_draw, hW3]
      repeat refine WPo_ob ?_
      refine p.mono ?_
      clear p
      rintro ⟨v, h4⟩ ⟨x4, u4, e4, s4⟩
      simp only at x4 e4 s4
      subst e4
      have y4 := y3.trans x4
      have z4 := z3.trans x4
      have hW4 := hW1; rw [← z4.old _ hnW] at hW4
      have hF4 := hF1'; rw [← z4.old _ (by omega)] at hF4
      have p := two_ev tag cf lf _ h4 (hf.ext y4) (by omega)
      unfold formV at p
      rw [hE2, hB2] at p
      simp (maxSteps := 1000000) (disch := first | decide | omega | (simp only [go_sem]; first | done | omega)) only [go_sem, Int.reduceToNat, Nat.reduceMul, Nat.reduceAdd, Nat.reduceSub, ↓EU_region, ↓EU_draw, hF4]
      repeat refine WPo_ob ?_
      refine p.mono ?_
      clear p
      rintro ⟨v, h5⟩ ⟨x5, u5, e5, s5⟩
      simp only at x5 e5 s5
      subst e5
      have y5 := y4.trans x5
      have z5 := z4.trans x5
      have hW5 := hW1; rw [← z5.old _ hnW] at hW5
      have hF5 := hF1'; rw [← z5.old _ (by omega)] at hF5
      have p := rwrite2_ev tag cf lf _ h5 ((o1'.ext z5).sl) (by omega)
      unfold formV at p
      rw [hE2, hB2] at p
      simp (maxSteps := 1000000) (disch := first | decide | omega | (simp only [go_sem]; first | done | omega)) only [go_sem, Int.reduceToNat, Nat.reduceMul, Nat.reduceAdd, Nat.reduceSub, ↓EU_region, ↓EU_draw, hW5]
      repeat refine WPo_ob ?_
      refine p.mono ?_
      clear p
      rintro ⟨v, h6⟩ ⟨x6, u6, e6, s6⟩
      simp only at x6 e6 s6
      subst e6
      have y6 := y5.trans x6
      have z6 := z5.trans x6
      have hW6 := hW1; rw [← z6.old _ hnW] at hW6
      have hF6 := hF1'; rw [← z6.old _ (by omega)] at hF6
      simp (maxSteps := 1000000) (disch := first | decide | omega | (simp only [go_sem]; first | done | omega)) only [go_sem, Int.reduceToNat, Nat.reduceMul, Nat.reduceAdd, Nat.reduceSub, ↓EU_region, ↓EU_draw]
      repeat refine WPo_ob ?_
      refine (up_ev lb _ h6 (hb.ext y6) (by omega)).mono ?_
      rintro ⟨v, h7⟩ ⟨u7, rfl, s7, x7⟩
      simp only at x7 s7
      have y7 := y6.trans x7
      have z7 := z6.trans x7
      simp (maxSteps := 1000000) (disch := first | decide | omega | (simp only [go_sem]; first | done | omega)) only [go_sem, Int.reduceToNat, Nat.reduceMul, Nat.reduceAdd, Nat.reduceSub, ↓EU_region, ↓EU_draw]
      repeat refine WPo_ob ?_
      refine (rup_ev lb _ h7 (hb.ext y7) (by omega)).mono ?_
      rintro ⟨v, h8⟩ ⟨u8, rfl, s8, x8⟩
      simp only at x8 s8
      have y8 := y7.trans x8
      have z8 := z7.trans x8
      simp (maxSteps := 1000000) (disch := first | decide | omega | (simp only [go_sem]; first | done | omega)) only [go_sem, Int.reduceToNat, Nat.reduceMul, Nat.reduceAdd, Nat.reduceSub, ↓EU_region, ↓EU_draw]
      repeat refine WPo_ob ?_
      refine (eread_ev lb _ h8 (hb.ext y8) (by omega)).mono ?_
      rintro ⟨v, h9⟩ ⟨i9, rfl, o9, f9, x9⟩
      simp only at o9 f9 x9
      obtain ⟨a9, c9, rfl⟩ := o9.val
      unfold formV
      have hn9 := x9.le
      simp (maxSteps := 1000000) (disch := first | decide | omega | (simp only [go_sem]; first | done | omega)) only [go_sem, Int.reduceToNat, Nat.reduceMul, Nat.reduceAdd, Nat.reduceSub, ↓EU_region, ↓EU_draw]
      repeat refine WPo_ob ?_
      have x9' : Ext h8 (h9.push (.cells [.int .i64 (readR lb).2.2.1, .slice a9 (readR lb).2.2.2.1.length c9] 0)) := x9.push _
      refine (rread_ev lb _ _ (hb.ext (y8.trans x9')) (by omega)).mono ?_
      rintro ⟨v, h10⟩ ⟨i10, rfl, o10, f10, x10⟩
      simp only at o10 f10 x10
      obtain ⟨a10, c10, rfl⟩ := o10.val
      unfold formV
      have hn10 := x10.le
      rw [next_push] at hn10
      have hr10 : h10.get h9.next = .cells [.int .i64 (readR lb).2.2.1, .slice a9 (readR lb).2.2.2.1.length c9] 0 := by rw [x10.old _ (by rw [next_push]; omega)]; exact get_push_new _ _
      simp (maxSteps := 1000000) (disch := first | decide | omega | (simp only [go_sem]; first | done | omega)) only [go_sem, Int.reduceToNat, Nat.reduceMul, Nat.reduceAdd, Nat.reduceSub, ↓EU_region, ↓EU_draw]
      have x10' : Ext h10 (h10.push (.cells [.int .i64 (readR lb).2.2.1, .slice a10 (readR lb).2.2.2.1.length c10] 0)) := (Ext.refl h10).push _
      have hcr : (h10.push (.cells [.int .i64 (readR lb).2.2.1, .slice a10 (readR lb).2.2.2.1.length c10] 0)).get h9.next = .cells [.int .i64 (readR lb).2.2.1, .slice a9 (readR lb).2.2.2.1.length c9] 0 := by rw [get_push_old _ (by omega)]; exact hr10
      have hco : (h10.push (.cells [.int .i64 (readR lb).2.2.1, .slice a10 (readR lb).2.2.2.1.length c10] 0)).get h10.next = .cells [.int .i64 (readR lb).2.2.1, .slice a10 (readR lb).2.2.2.1.length c10] 0 := get_push_new _ _
      have hn11 : (h10.push (.cells [.int .i64 (readR lb).2.2.1, .slice a10 (readR lb).2.2.2.1.length c10] 0)).next = h10.next + 1 := next_push _ _
      generalize h10.push (.cells [.int .i64 (readR lb).2.2.1, .slice a10 (readR lb).2.2.2.1.length c10] 0) = h11 at *
      have z11 : Ext h8 h11 := (x9'.trans x10).trans x10'
      have ho9 := (o9.ext ((Ext.refl h9).push (.cells [.int .i64 (readR lb).2.2.1, .slice a9 (readR lb).2.2.2.1.length c9] 0))).ext (x10.trans x10')
      have ho10 := o10.ext x10'
      have hs3 := s3.ext (((((x4.trans x5).trans x6).trans x7).trans x8).trans z11)
      have hs4 := s4.ext ((((x5.trans x6).trans x7).trans x8).trans z11)
      have hs5 := s5.ext (((x6.trans x7).trans x8).trans z11)
      have hs6 := s6.ext ((x7.trans x8).trans z11)
      have hs7 := s7.ext (x8.trans z11)
      have hs8 := s8.ext z11
      have ec3 := conv_str fc_un_22 fc_un_9 fc_un_5 hs3
      have ec4 := conv_str fc_un_22 fc_un_9 fc_un_5 hs4
      have ec5 := conv_str fc_un_22 fc_un_9 fc_un_5 hs5
      have ec6 := conv_str fc_un_22 fc_un_9 fc_un_5 hs6
      have ec7 := conv_str fc_un_22 fc_un_9 fc_un_5 hs7
      have ec8 := conv_str fc_un_22 fc_un_9 fc_un_5 hs8
      have d1 : decide (B1 = B1) = true := decide_eq_true rfl
      have d2 : decide (E1 = E1) = true := decide_eq_true rfl
      have d3 : decide (B2 = B2) = true := decide_eq_true rfl
      have d4 : decide (E2 = E2) = true := decide_eq_true rfl
      have d5 : decide ((upR lb).1 = (upR lb).1) = true := decide_eq_true rfl
      have d6 : decide ((upR lb).2 = (upR lb).2) = true := decide_eq_true rfl
      have d7 : decide ((readR lb).2.2.2.2 = (readR lb).2.2.2.2) = true := decide_eq_true rfl
      have d8 : decide ((readR lb).2.1 = (readR lb).2.1) = true := decide_eq_true rfl
      rw [EU_bad _ _ rfl, EC_tab (tab := [(false, none), (false, none), (false, none), (false, none), (false, none), (false, none), (false, none), (false, none), (false, none), (false, none), (false, none), (false, none), (false, none), (false, none), (false, none), (false, none), (false, none), (false, none), (false, none), (false, none), (false, none), (false, none), (false, none), (false, none), (false, none), (false, none), (false, none), (false, none), (false, none), (false, none), (false, none), (false, none), (false, none), (false, none), (false, none), (false, none), (false, none), (false, none), (false, none), (false, none), (false, none), (false, none), (false, none), (false, none), (false, none), (false, none), (false, none), (false, none), (true, none), (false, (some (0, 1))), (true, none), (false, none), (false, none), (false, none), (false, none)]) (by kernel_rfl)]
      by_cases qe : (readR lb).2.2.2.2 = 0
      · have hde : decide ((readR lb).2.2.2.2 = 0) = true := decide_eq_true qe
        simp (maxSteps := 1000000) (disch := first | decide | omega | (simp only [go_sem]; first | done | omega)) only [go_sem, Int.reduceToNat, Nat.reduceMul, Nat.reduceAdd, Nat.reduceSub, ↓EU_region, ↓EU_draw, ec3, ec4, ec5, ec6, ec7, ec8, d1, d2, d3, d4, d5, d6, d7, d8, hde, hcr, hco]
        repeat refine WPo_ob ?_
        have hgi := good_facts (cgood_facts (readR_good qe)).2.2
        refine (own_ev _ (readR lb).2.2.2.1 _ h11 ho9.sl (by omega)).mono ?_
        rintro ⟨v, h12⟩ ⟨i12, rfl, o12, f12, x12⟩
        simp only at o12 f12 x12
        have hn12 := x12.le
        have ps := rsame_ev (readR lb).2.2.1 (readR lb).2.2.1 (readR lb).2.2.2.1 (readR lb).2.2.2.1 i12 _ h12 o12.sl (ho10.ext x12).sl (by omega)
        obtain ⟨a12, c12, rfl⟩ := o12.val
        unfold formV at ps ⊢
        have hcr' : h12.get h9.next = .cells [.int .i64 (readR lb).2.2.1, .slice a9 (readR lb).2.2.2.1.length c9] 0 := by rw [x12.old _ (by omega)]; exact hcr
        have hco' : h12.get h10.next = .cells [.int .i64 (readR lb).2.2.1, .slice a10 (readR lb).2.2.2.1.length c10] 0 := by rw [x12.old _ (by omega)]; exact hco
        simp (maxSteps := 1000000) (disch := first | decide | omega | (simp only [go_sem]; first | done | omega)) only [go_sem, Int.reduceToNat, Nat.reduceMul, Nat.reduceAdd, Nat.reduceSub, ↓EU_region, ↓EU_draw, hcr', hco']
        repeat refine WPo_ob ?_
        refine ps.bind fun h13 x13 => ?_
        have hn13 := x13.le
        have hcr'' : h13.get h9.next = .cells [.int .i64 (readR lb).2.2.1, .slice a9 (readR lb).2.2.2.1.length c9] 0 := by rw [x13.old _ (by omega)]; exact hcr'
        have hco'' : h13.get h10.next = .cells [.int .i64 (readR lb).2.2.1, .slice a10 (readR lb).2.2.2.1.length c10] 0 := by rw [x13.old _ (by omega)]; exact hco'
        have xx := x12.trans x13
        have ec3' := conv_str fc_un_22 fc_un_9 fc_un_5 (hs3.ext x12)
        have ec3'' := conv_str fc_un_22 fc_un_9 fc_un_5 (hs3.ext xx)
        have ec4' := conv_str fc_un_22 fc_un_9 fc_un_5 (hs4.ext x12)
        have ec4'' := conv_str fc_un_22 fc_un_9 fc_un_5 (hs4.ext xx)
        have ec5' := conv_str fc_un_22 fc_un_9 fc_un_5 (hs5.ext x12)
        have ec5'' := conv_str fc_un_22 fc_un_9 fc_un_5 (hs5.ext xx)
        have ec6' := conv_str fc_un_22 fc_un_9 fc_un_5 (hs6.ext x12)
        have ec6'' := conv_str fc_un_22 fc_un_9 fc_un_5 (hs6.ext xx)
        have ec7' := conv_str fc_un_22 fc_un_9 fc_un_5 (hs7.ext x12)
        have ec7'' := conv_str fc_un_22 fc_un_9 fc_un_5 (hs7.ext xx)
        have ec8' := conv_str fc_un_22 fc_un_9 fc_un_5 (hs8.ext x12)
        have ec8'' := conv_str fc_un_22 fc_un_9 fc_un_5 (hs8.ext xx)
        have hdc : decide ((readR lb).2.2.1 = (readR lb).2.2.1) = true := decide_eq_true rfl
        have hdl : decide ((readR lb).2.2.2.1 = (readR lb).2.2.2.1) = true := decide_eq_true rfl
        have hv9 := (ho9.sl).veq
        have hv10 := (ho10.sl).veq
        have hvl : veqL [.int .i64 (readR lb).2.2.1, .slice a10 (readR lb).2.2.2.1.length c10] [.int .i64 (readR lb).2.2.1, .slice a10 (readR lb).2.2.2.1.length c10] = true := by
          rw [veqL_c _ _ _ _ (by simp) (by simp), veq_int, veqL_c _ _ _ _ (by simp) (by simp), hv10, veqL_n]; rfl
        simp (maxSteps := 1000000) (disch := first | decide | omega | (simp only [go_sem]; first | done | omega)) only [go_sem, Int.reduceToNat, Nat.reduceMul, Nat.reduceAdd, Nat.reduceSub, ↓EU_region, ↓EU_draw, ec3, ec4, ec5, ec6, ec7, ec8, ec3', ec4', ec5', ec6', ec7', ec8', ec3'', ec4'', ec5'', ec6'', ec7'', ec8'', d1, d2, d3, d4, d5, d6, d7, d8, hde, hdc, hdl, hcr, hco, hcr', hco', hcr'', hco'', hv9, hv10, hvl]
      · have hde : decide ((readR lb).2.2.2.2 = 0) = false := decide_eq_false qe
        simp (maxSteps := 1000000) (disch := first | decide | omega | (simp only [go_sem]; first | done | omega)) only [go_sem, Int.reduceToNat, Nat.reduceMul, Nat.reduceAdd, Nat.reduceSub, ↓EU_region, ↓EU_draw, ec3, ec4, ec5, ec6, ec7, ec8, d1, d2, d3, d4, d5, d6, d7, d8, hde, hcr, hco]
  · simp (maxSteps := 1000000) (disch := first | decide | omega | (simp only [go_sem]; first | done | omega)) only [go_sem, Int.reduceToNat, Nat.reduceMul, Nat.reduceAdd, Nat.reduceSub, ↓EU_region, ↓EU_draw, b1]
end Go.Proofs.Ytlandojofjkeaaa.EV
