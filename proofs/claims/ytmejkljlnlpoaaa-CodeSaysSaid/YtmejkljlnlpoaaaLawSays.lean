/- CodeSays, plainly. No condition. -/
import Derived.Test.YtmejkljlnlpoaaaRef5
import Derived.Test.YtmejkljlnlpoaaaOwn
import Derived.Test.YtmejkljlnlpoaaaRowItem
import Derived.Test.YtmejkljlnlpoaaaBytes
namespace Go.Proofs.Ytmejkljlnlpoaaa.EV
open Go Go.Proofs
set_option linter.unusedVariables false
set_option linter.unusedSimpArgs false
set_option maxRecDepth 100000
set_option pp.deepTerms false
set_option pp.deepTerms.threshold 20
theorem versionN_eq (l : List UInt8) : versionN l = if 3 ≤ l.length ∧ bN l 0 = 83 ∧ bN l 1 = 72 then some (bN l 2 : Int) else none := by
  unfold versionN
  split
  · rename_i a b c r
    have h3 : 3 ≤ (a :: b :: c :: r).length := by simp only [List.length_cons]; omega
    have e0 : bN (a :: b :: c :: r) 0 = a.toNat := rfl
    have e1 : bN (a :: b :: c :: r) 1 = b.toNat := rfl
    have e2 : bN (a :: b :: c :: r) 2 = c.toNat := rfl
    rw [e0, e1, e2]
    have f0 : a.toNat = 83 ↔ a = 83 := ⟨fun h => UInt8.toNat_inj.1 h, fun h => by rw [h]; rfl⟩
    have f1 : b.toNat = 72 ↔ b = 72 := ⟨fun h => UInt8.toNat_inj.1 h, fun h => by rw [h]; rfl⟩
    by_cases q : a = 83 ∧ b = 72
    · rw [if_pos q, if_pos ⟨h3, f0.2 q.1, f1.2 q.2⟩]
    · rw [if_neg q, if_neg fun k => q ⟨f0.1 k.2.1, f1.1 k.2.2⟩]
  · rename_i q
    rw [if_neg]
    rintro ⟨h, _⟩
    match l, h with
    | a :: b :: c :: r, _ => exact q a b c r rfl
noncomputable def putB (tag cur : Int) (l : List Item) : List UInt8 := if cgood tag cur l then sealN (encF tag cur l) else []
noncomputable def putE (tag cur : Int) (l : List Item) : Int := if cgood tag cur l then 0 else 1
theorem put_any {x : VH} {h : Heap} {tag cur : Int} {l : List Item} (p : WPo x fun q => Ext h q.2 ∧ (cgood tag cur l = false → q.1 = .tuple ⟨[.slice none 0 1, .int .i64 1]⟩) ∧ (cgood tag cur l = true → ∃ u, q.1 = .tuple ⟨[u, .int .i64 0]⟩ ∧ OW byteE 1 q.2 u (sealN (encF tag cur l)) ∧ Fresh h.next u)) :
    WPo x fun q => ∃ u, q.1 = .tuple ⟨[u, .int .i64 (putE tag cur l)]⟩ ∧ SL byteE 1 q.2 u (putB tag cur l) ∧ Ext h q.2 := by
  refine p.mono ?_
  rintro ⟨v, h'⟩ ⟨x1, k1, k2⟩
  unfold putE putB
  cases hg : cgood tag cur l with
  | false => exact ⟨_, k1 hg, SL.nil, x1⟩
  | true =>
    obtain ⟨u, e, o, _⟩ := k2 hg
    exact ⟨u, e, o.sl, x1⟩
set_option maxHeartbeats 4000000 in
theorem law_CodeSays (h : Heap) (tag : Int) (wt : (Lit.int .i64 tag).wf = true) (cf : Int) (wf : (Lit.int .i64 cf).wf = true) (sf : Value) (lf : List Item) (hf : SL itemE 3 h sf lf) (wlf : ∀ z ∈ lf, ItemWf z) (sb : Value) (zb : List Int) (hb0 : SL (intE .u8) 1 h sb zb) (wb : ∀ z ∈ zb, (Lit.int .u8 z).wf = true) :
    WPo (EF Try.prog O0 3 [.int .i64 tag, formV cf sf, sb] h) fun q => q.1 = .bool true := by
  have hb := SL_bytes hb0 wb
  generalize zb.map byteZ = lb at hb
  rw [EF_body (O := O0) (by kernel_rfl) Try.func3 rfl (rs := [.tmp 6]) rfl (bad := [11]) (by kernel_rfl) _ _ (m := 133) rfl]
  obtain ⟨af, kf, hv⟩ := hf.val
  subst hv
  obtain ⟨ab, kb, hv⟩ := hb.val
  subst hv
  unfold formV
  simp (maxSteps := 1000000) (disch := first | decide | omega | (simp only [go_sem]; first | done | omega)) only [go_sem, Int.reduceToNat, Nat.reduceMul, Nat.reduceAdd, Nat.reduceSub, ↓EU_region, ↓EU_draw, awake_ev]
  ((repeat refine WPo_ob ?_); (first | refine WPo_cond (fun b1 => ?_) (fun b1 => ?_) | refine WPo_gard (fun b1 => ?_) (fun b1 => ?_) | refine WPo_gardT (fun b1 => ?_) (fun b1 => ?_)) <;> (try simp only [Bool.not_eq_true', Bool.not_eq_false'] at b1))
  · have b1' := b1
    simp only [decide_eq_false_iff_not] at b1'
    simp (maxSteps := 1000000) (disch := first | decide | omega | (simp only [go_sem]; first | done | omega)) only [go_sem, Int.reduceToNat, Nat.reduceMul, Nat.reduceAdd, Nat.reduceSub, ↓EU_region, ↓EU_draw, b1]
    ((repeat refine WPo_ob ?_); (first | refine WPo_cond (fun b2 => ?_) (fun b2 => ?_) | refine WPo_gard (fun b2 => ?_) (fun b2 => ?_) | refine WPo_gardT (fun b2 => ?_) (fun b2 => ?_)) <;> (try simp only [Bool.not_eq_true', Bool.not_eq_false'] at b2))
    · simp (maxSteps := 1000000) (disch := first | decide | omega | (simp only [go_sem]; first | done | omega)) only [go_sem, Int.reduceToNat, Nat.reduceMul, Nat.reduceAdd, Nat.reduceSub, ↓EU_region, ↓EU_draw, b2]
    · have b2' := b2
      simp only [decide_eq_false_iff_not] at b2'
      simp (maxSteps := 1000000) (disch := first | decide | omega | (simp only [go_sem]; first | done | omega)) only [go_sem, Int.reduceToNat, Nat.reduceMul, Nat.reduceAdd, Nat.reduceSub, ↓EU_region, ↓EU_draw, b2]
      repeat refine WPo_ob ?_
      have x0 : Ext h (h.push (.cells [.int .i64 cf, .slice af lf.length kf] 0)) := (Ext.refl h).push _
      refine (put_any (cput_ev tag cf lf _ _ (hf.ext x0) (by omega))).mono ?_
      rintro ⟨v1, h1⟩ ⟨u1, rfl, s1, x1⟩
      simp only at x1 s1
      have hn1 := x1.le
      rw [next_push] at hn1
      have y1 : Ext h h1 := x0.trans x1
      have hc1 : h1.get h.next = .cells [.int .i64 cf, .slice af lf.length kf] 0 := by rw [x1.old _ (by rw [next_push]; omega)]; exact get_push_new _ _
      simp (maxSteps := 1000000) (disch := first | decide | omega | (simp only [go_sem]; first | done | omega)) only [go_sem, Int.reduceToNat, Nat.reduceMul, Nat.reduceAdd, Nat.reduceSub, ↓EU_region, ↓EU_draw, hc1]
      repeat refine WPo_ob ?_
      refine (own_ev cf lf _ h1 (hf.ext y1) (by omega)).mono ?_
      rintro ⟨v2, h2⟩ ⟨i2, rfl, o2, f2, x2⟩
      simp only at o2 f2 x2
      have pw := rwrite3_ev tag cf lf i2 h2 o2.sl (by omega)
      obtain ⟨a2, c2, rfl⟩ := o2.val
      unfold formV at pw ⊢
      simp (maxSteps := 1000000) (disch := first | decide | omega | (simp only [go_sem]; first | done | omega)) only [go_sem, Int.reduceToNat, Nat.reduceMul, Nat.reduceAdd, Nat.reduceSub, ↓EU_region, ↓EU_draw]
      repeat refine WPo_ob ?_
      refine (put_any pw).mono ?_
      rintro ⟨v3, h3⟩ ⟨u3, rfl, s3, x3⟩
      simp only at s3 x3
      have y3 : Ext h1 h3 := x2.trans x3
      simp (maxSteps := 1000000) (disch := first | decide | omega | (simp only [go_sem]; first | done | omega)) only [go_sem, Int.reduceToNat, Nat.reduceMul, Nat.reduceAdd, Nat.reduceSub, ↓EU_region, ↓EU_draw]
      repeat refine WPo_ob ?_
      refine (cget_ev lb _ h3 (hb.ext (y1.trans y3)) (by omega)).mono ?_
      rintro ⟨v4, h4⟩ ⟨i4, rfl, o4, f4, x4⟩
      simp only at o4 f4 x4
      obtain ⟨a4, c4, rfl⟩ := o4.val
      unfold formV
      have hn4 := x4.le
      simp (maxSteps := 1000000) (disch := first | decide | omega | (simp only [go_sem]; first | done | omega)) only [go_sem, Int.reduceToNat, Nat.reduceMul, Nat.reduceAdd, Nat.reduceSub, ↓EU_region, ↓EU_draw]
      repeat refine WPo_ob ?_
      have x4' : Ext h3 (h4.push (.cells [.int .i64 (getR lb).2.1, .slice a4 (getR lb).2.2.1.length c4] 0)) := x4.push _
      refine (rget_ev lb _ _ (hb.ext ((y1.trans y3).trans x4')) (by omega)).mono ?_
      rintro ⟨v5, h5⟩ ⟨i5, rfl, o5, f5, x5⟩
      simp only at o5 f5 x5
      obtain ⟨a5, c5, rfl⟩ := o5.val
      unfold formV
      have hn5 := x5.le
      rw [next_push] at hn5
      have hc5 : h5.get h4.next = .cells [.int .i64 (getR lb).2.1, .slice a4 (getR lb).2.2.1.length c4] 0 := by rw [x5.old _ (by rw [next_push]; omega)]; exact get_push_new _ _
      simp (maxSteps := 1000000) (disch := first | decide | omega | (simp only [go_sem]; first | done | omega)) only [go_sem, Int.reduceToNat, Nat.reduceMul, Nat.reduceAdd, Nat.reduceSub, ↓EU_region, ↓EU_draw]
      have x5' : Ext h5 (h5.push (.cells [.int .i64 (getR lb).2.1, .slice a5 (getR lb).2.2.1.length c5] 0)) := (Ext.refl h5).push _
      have hc12 : (h5.push (.cells [.int .i64 (getR lb).2.1, .slice a5 (getR lb).2.2.1.length c5] 0)).get h4.next = .cells [.int .i64 (getR lb).2.1, .slice a4 (getR lb).2.2.1.length c4] 0 := by rw [get_push_old _ (by omega)]; exact hc5
      have hc15 : (h5.push (.cells [.int .i64 (getR lb).2.1, .slice a5 (getR lb).2.2.1.length c5] 0)).get h5.next = .cells [.int .i64 (getR lb).2.1, .slice a5 (getR lb).2.2.1.length c5] 0 := get_push_new _ _
      have hn6 : (h5.push (.cells [.int .i64 (getR lb).2.1, .slice a5 (getR lb).2.2.1.length c5] 0)).next = h5.next + 1 := next_push _ _
      generalize h5.push (.cells [.int .i64 (getR lb).2.1, .slice a5 (getR lb).2.2.1.length c5] 0) = h6 at *
      have x36 : Ext h3 h6 := (x4'.trans x5).trans x5'
      have hb6 := hb.ext ((y1.trans y3).trans x36)
      have hs1 := s1.ext (y3.trans x36)
      have hs3 := s3.ext x36
      have ho4 := (o4.ext ((Ext.refl h4).push (.cells [.int .i64 (getR lb).2.1, .slice a4 (getR lb).2.2.1.length c4] 0))).ext (x5.trans x5')
      have ho5 := o5.ext x5'
      have ev := version_ev lb _ h6 hb6 (by omega)
      have hve := versionN_eq lb
      have ec1 := conv_str fc_un_25 fc_un_9 fc_un_5 hs1
      have ec3 := conv_str fc_un_25 fc_un_9 fc_un_5 hs3
      by_cases h3' : 3 ≤ lb.length
      · obtain ⟨B, o, c, e, hB, r0⟩ := rd_byte hb6 (i := 0) (by omega)
        cases e
        obtain ⟨B', o', c', e, _, r1⟩ := rd_byte hb6 (i := 1) (by omega)
        cases e
        obtain ⟨B', o', c', e, _, r2⟩ := rd_byte hb6 (i := 2) (by omega)
        cases e
        rw [Nat.add_zero] at r0
        have hw2 : wrapF .i64 (bN lb 2 : Int) = bN lb 2 := wrap64 (by have := bN_lt lb 2; omega)
        have hd22 : decide ((bN lb 2 : Int) = bN lb 2) = true := decide_eq_true rfl
        have hd2 : decide (2 < (lb.length : Int)) = true := decide_eq_true (by omega)
        by_cases q0 : bN lb 0 = 83
        · have hd83 : decide ((bN lb 0 : Int) = 83) = true := decide_eq_true (by omega)
          by_cases q1 : bN lb 1 = 72
          · have hd72 : decide ((bN lb 1 : Int) = 72) = true := decide_eq_true (by omega)
            rw [hve, if_pos ⟨h3', q0, q1⟩] at ev
            simp (maxSteps := 1000000) (disch := first | decide | omega | (simp only [go_sem]; first | done | omega)) only [go_sem, Int.reduceToNat, Nat.reduceMul, Nat.reduceAdd, Nat.reduceSub, ↓EU_region, ↓EU_draw, ev, hd2, hd83, hd72, r0, r1, r2]
            rw [EU_bad _ _ rfl, EC_tab (tab := [(false, none), (false, none), (false, none), (false, none), (false, none), (false, none), (false, none), (false, none), (false, none), (false, none), (false, none), (false, none), (false, none), (false, none), (false, none), (false, none), (false, none), (false, none), (false, none), (false, none), (false, none), (false, none), (false, none), (false, none), (false, none), (false, none), (false, none), (false, none), (false, none), (false, none), (false, none), (false, none), (false, none), (false, none), (true, none), (false, (some (0, 1))), (true, none), (false, none), (false, none), (false, none), (false, none), (false, none), (false, none), (false, none), (false, none), (false, none), (false, none), (false, none), (false, none), (false, none), (false, none), (false, none), (false, none), (false, none), (false, none), (false, none), (false, none), (false, none)]) (by kernel_rfl)]
            have hte : decide (putB tag cf lf = putB tag cf lf) = true := decide_eq_true rfl
            have htf : decide (putE tag cf lf = putE tag cf lf) = true := decide_eq_true rfl
            have ht1 : decide ((getR lb).1 = (getR lb).1) = true := decide_eq_true rfl
            have ht2 : decide ((getR lb).2.2.2 = (getR lb).2.2.2) = true := decide_eq_true rfl
            by_cases qe : (getR lb).2.2.2 = 0
            · have hde : decide ((getR lb).2.2.2 = 0) = true := decide_eq_true qe
              simp (maxSteps := 1000000) (disch := first | decide | omega | (simp only [go_sem]; first | done | omega)) only [go_sem, Int.reduceToNat, Nat.reduceMul, Nat.reduceAdd, Nat.reduceSub, ↓EU_region, ↓EU_draw, ec1, ec3, hte, htf, ht1, ht2, hde, hc12, hc15, hd2, hd83, hd72, r0, r1, r2, hw2, hd22]
              repeat refine WPo_ob ?_
              have hgi := good_facts (cgood_facts (getR_inv qe).1).2.2
              refine (own_ev _ (getR lb).2.2.1 _ h6 ho4.sl (by omega)).mono ?_
              rintro ⟨v7, h7⟩ ⟨i7, rfl, o7, f7, x7⟩
              simp only at o7 f7 x7
              have hn7 := x7.le
              have ps := rsame_ev (getR lb).2.1 (getR lb).2.1 (getR lb).2.2.1 (getR lb).2.2.1 i7 _ h7 o7.sl (ho5.ext x7).sl (by omega)
              obtain ⟨a7, c7, rfl⟩ := o7.val
              unfold formV at ps ⊢
              have hc15' : h7.get h5.next = .cells [.int .i64 (getR lb).2.1, .slice a5 (getR lb).2.2.1.length c5] 0 := by rw [x7.old _ (by omega)]; exact hc15
              have hc12' : h7.get h4.next = .cells [.int .i64 (getR lb).2.1, .slice a4 (getR lb).2.2.1.length c4] 0 := by rw [x7.old _ (by omega)]; exact hc12
              simp (maxSteps := 1000000) (disch := first | decide | omega | (simp only [go_sem]; first | done | omega)) only [go_sem, Int.reduceToNat, Nat.reduceMul, Nat.reduceAdd, Nat.reduceSub, ↓EU_region, ↓EU_draw, hc15', hc12']
              repeat refine WPo_ob ?_
              refine ps.bind fun h8 x8 => ?_
              have hn8 := x8.le
              have hc15'' : h8.get h5.next = .cells [.int .i64 (getR lb).2.1, .slice a5 (getR lb).2.2.1.length c5] 0 := by rw [x8.old _ (by omega)]; exact hc15'
              have hc12'' : h8.get h4.next = .cells [.int .i64 (getR lb).2.1, .slice a4 (getR lb).2.2.1.length c4] 0 := by rw [x8.old _ (by omega)]; exact hc12'
              have ec1' := conv_str fc_un_25 fc_un_9 fc_un_5 (hs1.ext x7)
              have ec3' := conv_str fc_un_25 fc_un_9 fc_un_5 (hs3.ext x7)
              have ec1'' := conv_str fc_un_25 fc_un_9 fc_un_5 (hs1.ext (x7.trans x8))
              have ec3'' := conv_str fc_un_25 fc_un_9 fc_un_5 (hs3.ext (x7.trans x8))
              have hx68 := x7.trans x8
              have hdc : decide ((getR lb).2.1 = (getR lb).2.1) = true := decide_eq_true rfl
              have hdl : decide ((getR lb).2.2.1 = (getR lb).2.2.1) = true := decide_eq_true rfl
              have hv4 := (ho4.sl).veq
              have hv5 := (ho5.sl).veq
              have hvl : veqL [.int .i64 (getR lb).2.1, .slice a5 (getR lb).2.2.1.length c5] [.int .i64 (getR lb).2.1, .slice a5 (getR lb).2.2.1.length c5] = true := by
                rw [veqL_c _ _ _ _ (by simp) (by simp), veq_int, veqL_c _ _ _ _ (by simp) (by simp), hv5, veqL_n]; rfl
              have r2'' : rdc1 (h8.get B) (o + 2) = some (.int .u8 (bN lb 2)) := (by rw [hx68.old _ hB]; exact r2)
              simp (maxSteps := 1000000) (disch := first | decide | omega | (simp only [go_sem]; first | done | omega)) only [go_sem, Int.reduceToNat, Nat.reduceMul, Nat.reduceAdd, Nat.reduceSub, ↓EU_region, ↓EU_draw, ec1, ec3, ec1', ec3', ec1'', ec3'', hdc, hdl, hc12, hc15, hc12', hc15', hc12'', hc15'', hv4, hv5, hvl, hd2, hd83, hd72, r0, r1, r2, hw2, hd22, r2'']
            · have hde : decide ((getR lb).2.2.2 = 0) = false := decide_eq_false qe
              have hit : (getR lb).2.2.1.length = 0 := by rw [(getR_err qe).2.2]; rfl
              have hdi : decide (((getR lb).2.2.1.length : Int) = 0) = true := decide_eq_true (by omega)
              simp (maxSteps := 1000000) (disch := first | decide | omega | (simp only [go_sem]; first | done | omega)) only [go_sem, Int.reduceToNat, Nat.reduceMul, Nat.reduceAdd, Nat.reduceSub, ↓EU_region, ↓EU_draw, ec1, ec3, hte, htf, ht1, ht2, hde, hdi, hc12, hc15, hd2, hd83, hd72, r0, r1, r2, hw2, hd22]
          · have hd72 : decide ((bN lb 1 : Int) = 72) = false := decide_eq_false (by omega)
            rw [hve, if_neg (fun k => q1 k.2.2)] at ev
            simp (maxSteps := 1000000) (disch := first | decide | omega | (simp only [go_sem]; first | done | omega)) only [go_sem, Int.reduceToNat, Nat.reduceMul, Nat.reduceAdd, Nat.reduceSub, ↓EU_region, ↓EU_draw, ev, hd2, hd83, hd72, r0, r1, r2]
            rw [EU_bad _ _ rfl, EC_tab (tab := [(false, none), (false, none), (false, none), (false, none), (false, none), (false, none), (false, none), (false, none), (false, none), (false, none), (false, none), (false, none), (false, none), (false, none), (false, none), (false, none), (false, none), (false, none), (false, none), (false, none), (false, none), (false, none), (false, none), (false, none), (false, none), (false, none), (false, none), (false, none), (false, none), (false, none), (false, none), (false, none), (false, none), (false, none), (true, none), (false, (some (0, 1))), (true, none), (false, none), (false, none), (false, none), (false, none), (false, none), (false, none), (false, none), (false, none), (false, none), (false, none), (false, none), (false, none), (false, none), (false, none), (false, none), (false, none), (false, none), (false, none), (false, none), (false, none), (false, none)]) (by kernel_rfl)]
            have hte : decide (putB tag cf lf = putB tag cf lf) = true := decide_eq_true rfl
            have htf : decide (putE tag cf lf = putE tag cf lf) = true := decide_eq_true rfl
            have ht1 : decide ((getR lb).1 = (getR lb).1) = true := decide_eq_true rfl
            have ht2 : decide ((getR lb).2.2.2 = (getR lb).2.2.2) = true := decide_eq_true rfl
            by_cases qe : (getR lb).2.2.2 = 0
            · have hde : decide ((getR lb).2.2.2 = 0) = true := decide_eq_true qe
              simp (maxSteps := 1000000) (disch := first | decide | omega | (simp only [go_sem]; first | done | omega)) only [go_sem, Int.reduceToNat, Nat.reduceMul, Nat.reduceAdd, Nat.reduceSub, ↓EU_region, ↓EU_draw, ec1, ec3, hte, htf, ht1, ht2, hde, hc12, hc15, hd2, hd83, hd72, r0, r1]
              repeat refine WPo_ob ?_
              have hgi := good_facts (cgood_facts (getR_inv qe).1).2.2
              refine (own_ev _ (getR lb).2.2.1 _ h6 ho4.sl (by omega)).mono ?_
              rintro ⟨v7, h7⟩ ⟨i7, rfl, o7, f7, x7⟩
              simp only at o7 f7 x7
              have hn7 := x7.le
              have ps := rsame_ev (getR lb).2.1 (getR lb).2.1 (getR lb).2.2.1 (getR lb).2.2.1 i7 _ h7 o7.sl (ho5.ext x7).sl (by omega)
              obtain ⟨a7, c7, rfl⟩ := o7.val
              unfold formV at ps ⊢
              have hc15' : h7.get h5.next = .cells [.int .i64 (getR lb).2.1, .slice a5 (getR lb).2.2.1.length c5] 0 := by rw [x7.old _ (by omega)]; exact hc15
              have hc12' : h7.get h4.next = .cells [.int .i64 (getR lb).2.1, .slice a4 (getR lb).2.2.1.length c4] 0 := by rw [x7.old _ (by omega)]; exact hc12
              simp (maxSteps := 1000000) (disch := first | decide | omega | (simp only [go_sem]; first | done | omega)) only [go_sem, Int.reduceToNat, Nat.reduceMul, Nat.reduceAdd, Nat.reduceSub, ↓EU_region, ↓EU_draw, hc15', hc12']
              repeat refine WPo_ob ?_
              refine ps.bind fun h8 x8 => ?_
              have hn8 := x8.le
              have hc15'' : h8.get h5.next = .cells [.int .i64 (getR lb).2.1, .slice a5 (getR lb).2.2.1.length c5] 0 := by rw [x8.old _ (by omega)]; exact hc15'
              have hc12'' : h8.get h4.next = .cells [.int .i64 (getR lb).2.1, .slice a4 (getR lb).2.2.1.length c4] 0 := by rw [x8.old _ (by omega)]; exact hc12'
              have ec1' := conv_str fc_un_25 fc_un_9 fc_un_5 (hs1.ext x7)
              have ec3' := conv_str fc_un_25 fc_un_9 fc_un_5 (hs3.ext x7)
              have ec1'' := conv_str fc_un_25 fc_un_9 fc_un_5 (hs1.ext (x7.trans x8))
              have ec3'' := conv_str fc_un_25 fc_un_9 fc_un_5 (hs3.ext (x7.trans x8))
              have hx68 := x7.trans x8
              have hdc : decide ((getR lb).2.1 = (getR lb).2.1) = true := decide_eq_true rfl
              have hdl : decide ((getR lb).2.2.1 = (getR lb).2.2.1) = true := decide_eq_true rfl
              have hv4 := (ho4.sl).veq
              have hv5 := (ho5.sl).veq
              have hvl : veqL [.int .i64 (getR lb).2.1, .slice a5 (getR lb).2.2.1.length c5] [.int .i64 (getR lb).2.1, .slice a5 (getR lb).2.2.1.length c5] = true := by
                rw [veqL_c _ _ _ _ (by simp) (by simp), veq_int, veqL_c _ _ _ _ (by simp) (by simp), hv5, veqL_n]; rfl
              skip
              simp (maxSteps := 1000000) (disch := first | decide | omega | (simp only [go_sem]; first | done | omega)) only [go_sem, Int.reduceToNat, Nat.reduceMul, Nat.reduceAdd, Nat.reduceSub, ↓EU_region, ↓EU_draw, ec1, ec3, ec1', ec3', ec1'', ec3'', hdc, hdl, hc12, hc15, hc12', hc15', hc12'', hc15'', hv4, hv5, hvl, hd2, hd83, hd72, r0, r1, hve]
            · have hde : decide ((getR lb).2.2.2 = 0) = false := decide_eq_false qe
              have hit : (getR lb).2.2.1.length = 0 := by rw [(getR_err qe).2.2]; rfl
              have hdi : decide (((getR lb).2.2.1.length : Int) = 0) = true := decide_eq_true (by omega)
              simp (maxSteps := 1000000) (disch := first | decide | omega | (simp only [go_sem]; first | done | omega)) only [go_sem, Int.reduceToNat, Nat.reduceMul, Nat.reduceAdd, Nat.reduceSub, ↓EU_region, ↓EU_draw, ec1, ec3, hte, htf, ht1, ht2, hde, hdi, hc12, hc15, hd2, hd83, hd72, r0, r1]
        · have hd83 : decide ((bN lb 0 : Int) = 83) = false := decide_eq_false (by omega)
          rw [hve, if_neg (fun k => q0 k.2.1)] at ev
          simp (maxSteps := 1000000) (disch := first | decide | omega | (simp only [go_sem]; first | done | omega)) only [go_sem, Int.reduceToNat, Nat.reduceMul, Nat.reduceAdd, Nat.reduceSub, ↓EU_region, ↓EU_draw, ev, hd2, hd83, r0, r1, r2]
          rw [EU_bad _ _ rfl, EC_tab (tab := [(false, none), (false, none), (false, none), (false, none), (false, none), (false, none), (false, none), (false, none), (false, none), (false, none), (false, none), (false, none), (false, none), (false, none), (false, none), (false, none), (false, none), (false, none), (false, none), (false, none), (false, none), (false, none), (false, none), (false, none), (false, none), (false, none), (false, none), (false, none), (false, none), (false, none), (false, none), (false, none), (false, none), (false, none), (true, none), (false, (some (0, 1))), (true, none), (false, none), (false, none), (false, none), (false, none), (false, none), (false, none), (false, none), (false, none), (false, none), (false, none), (false, none), (false, none), (false, none), (false, none), (false, none), (false, none), (false, none), (false, none), (false, none), (false, none), (false, none)]) (by kernel_rfl)]
          have hte : decide (putB tag cf lf = putB tag cf lf) = true := decide_eq_true rfl
          have htf : decide (putE tag cf lf = putE tag cf lf) = true := decide_eq_true rfl
          have ht1 : decide ((getR lb).1 = (getR lb).1) = true := decide_eq_true rfl
          have ht2 : decide ((getR lb).2.2.2 = (getR lb).2.2.2) = true := decide_eq_true rfl
          by_cases qe : (getR lb).2.2.2 = 0
          · have hde : decide ((getR lb).2.2.2 = 0) = true := decide_eq_true qe
            simp (maxSteps := 1000000) (disch := first | decide | omega | (simp only [go_sem]; first | done | omega)) only [go_sem, Int.reduceToNat, Nat.reduceMul, Nat.reduceAdd, Nat.reduceSub, ↓EU_region, ↓EU_draw, ec1, ec3, hte, htf, ht1, ht2, hde, hc12, hc15, hd2, hd83, r0]
            repeat refine WPo_ob ?_
            have hgi := good_facts (cgood_facts (getR_inv qe).1).2.2
            refine (own_ev _ (getR lb).2.2.1 _ h6 ho4.sl (by omega)).mono ?_
            rintro ⟨v7, h7⟩ ⟨i7, rfl, o7, f7, x7⟩
            simp only at o7 f7 x7
            have hn7 := x7.le
            have ps := rsame_ev (getR lb).2.1 (getR lb).2.1 (getR lb).2.2.1 (getR lb).2.2.1 i7 _ h7 o7.sl (ho5.ext x7).sl (by omega)
            obtain ⟨a7, c7, rfl⟩ := o7.val
            unfold formV at ps ⊢
            have hc15' : h7.get h5.next = .cells [.int .i64 (getR lb).2.1, .slice a5 (getR lb).2.2.1.length c5] 0 := by rw [x7.old _ (by omega)]; exact hc15
            have hc12' : h7.get h4.next = .cells [.int .i64 (getR lb).2.1, .slice a4 (getR lb).2.2.1.length c4] 0 := by rw [x7.old _ (by omega)]; exact hc12
            simp (maxSteps := 1000000) (disch := first | decide | omega | (simp only [go_sem]; first | done | omega)) only [go_sem, Int.reduceToNat, Nat.reduceMul, Nat.reduceAdd, Nat.reduceSub, ↓EU_region, ↓EU_draw, hc15', hc12']
            repeat refine WPo_ob ?_
            refine ps.bind fun h8 x8 => ?_
            have hn8 := x8.le
            have hc15'' : h8.get h5.next = .cells [.int .i64 (getR lb).2.1, .slice a5 (getR lb).2.2.1.length c5] 0 := by rw [x8.old _ (by omega)]; exact hc15'
            have hc12'' : h8.get h4.next = .cells [.int .i64 (getR lb).2.1, .slice a4 (getR lb).2.2.1.length c4] 0 := by rw [x8.old _ (by omega)]; exact hc12'
            have ec1' := conv_str fc_un_25 fc_un_9 fc_un_5 (hs1.ext x7)
            have ec3' := conv_str fc_un_25 fc_un_9 fc_un_5 (hs3.ext x7)
            have ec1'' := conv_str fc_un_25 fc_un_9 fc_un_5 (hs1.ext (x7.trans x8))
            have ec3'' := conv_str fc_un_25 fc_un_9 fc_un_5 (hs3.ext (x7.trans x8))
            have hx68 := x7.trans x8
            have hdc : decide ((getR lb).2.1 = (getR lb).2.1) = true := decide_eq_true rfl
            have hdl : decide ((getR lb).2.2.1 = (getR lb).2.2.1) = true := decide_eq_true rfl
            have hv4 := (ho4.sl).veq
            have hv5 := (ho5.sl).veq
            have hvl : veqL [.int .i64 (getR lb).2.1, .slice a5 (getR lb).2.2.1.length c5] [.int .i64 (getR lb).2.1, .slice a5 (getR lb).2.2.1.length c5] = true := by
              rw [veqL_c _ _ _ _ (by simp) (by simp), veq_int, veqL_c _ _ _ _ (by simp) (by simp), hv5, veqL_n]; rfl
            skip
            simp (maxSteps := 1000000) (disch := first | decide | omega | (simp only [go_sem]; first | done | omega)) only [go_sem, Int.reduceToNat, Nat.reduceMul, Nat.reduceAdd, Nat.reduceSub, ↓EU_region, ↓EU_draw, ec1, ec3, ec1', ec3', ec1'', ec3'', hdc, hdl, hc12, hc15, hc12', hc15', hc12'', hc15'', hv4, hv5, hvl, hd2, hd83, r0, hve]
          · have hde : decide ((getR lb).2.2.2 = 0) = false := decide_eq_false qe
            have hit : (getR lb).2.2.1.length = 0 := by rw [(getR_err qe).2.2]; rfl
            have hdi : decide (((getR lb).2.2.1.length : Int) = 0) = true := decide_eq_true (by omega)
            simp (maxSteps := 1000000) (disch := first | decide | omega | (simp only [go_sem]; first | done | omega)) only [go_sem, Int.reduceToNat, Nat.reduceMul, Nat.reduceAdd, Nat.reduceSub, ↓EU_region, ↓EU_draw, ec1, ec3, hte, htf, ht1, ht2, hde, hdi, hc12, hc15, hd2, hd83, r0]
      · have hd2 : decide (2 < (lb.length : Int)) = false := decide_eq_false (by omega)
        rw [hve, if_neg (fun k => h3' k.1)] at ev
        simp (maxSteps := 1000000) (disch := first | decide | omega | (simp only [go_sem]; first | done | omega)) only [go_sem, Int.reduceToNat, Nat.reduceMul, Nat.reduceAdd, Nat.reduceSub, ↓EU_region, ↓EU_draw, ev, hd2]
        rw [EU_bad _ _ rfl, EC_tab (tab := [(false, none), (false, none), (false, none), (false, none), (false, none), (false, none), (false, none), (false, none), (false, none), (false, none), (false, none), (false, none), (false, none), (false, none), (false, none), (false, none), (false, none), (false, none), (false, none), (false, none), (false, none), (false, none), (false, none), (false, none), (false, none), (false, none), (false, none), (false, none), (false, none), (false, none), (false, none), (false, none), (false, none), (false, none), (true, none), (false, (some (0, 1))), (true, none), (false, none), (false, none), (false, none), (false, none), (false, none), (false, none), (false, none), (false, none), (false, none), (false, none), (false, none), (false, none), (false, none), (false, none), (false, none), (false, none), (false, none), (false, none), (false, none), (false, none), (false, none)]) (by kernel_rfl)]
        have hte : decide (putB tag cf lf = putB tag cf lf) = true := decide_eq_true rfl
        have htf : decide (putE tag cf lf = putE tag cf lf) = true := decide_eq_true rfl
        have ht1 : decide ((getR lb).1 = (getR lb).1) = true := decide_eq_true rfl
        have ht2 : decide ((getR lb).2.2.2 = (getR lb).2.2.2) = true := decide_eq_true rfl
        by_cases qe : (getR lb).2.2.2 = 0
        · have hde : decide ((getR lb).2.2.2 = 0) = true := decide_eq_true qe
          simp (maxSteps := 1000000) (disch := first | decide | omega | (simp only [go_sem]; first | done | omega)) only [go_sem, Int.reduceToNat, Nat.reduceMul, Nat.reduceAdd, Nat.reduceSub, ↓EU_region, ↓EU_draw, ec1, ec3, hte, htf, ht1, ht2, hde, hc12, hc15, hd2]
          repeat refine WPo_ob ?_
          have hgi := good_facts (cgood_facts (getR_inv qe).1).2.2
          refine (own_ev _ (getR lb).2.2.1 _ h6 ho4.sl (by omega)).mono ?_
          rintro ⟨v7, h7⟩ ⟨i7, rfl, o7, f7, x7⟩
          simp only at o7 f7 x7
          have hn7 := x7.le
          have ps := rsame_ev (getR lb).2.1 (getR lb).2.1 (getR lb).2.2.1 (getR lb).2.2.1 i7 _ h7 o7.sl (ho5.ext x7).sl (by omega)
          obtain ⟨a7, c7, rfl⟩ := o7.val
          unfold formV at ps ⊢
          have hc15' : h7.get h5.next = .cells [.int .i64 (getR lb).2.1, .slice a5 (getR lb).2.2.1.length c5] 0 := by rw [x7.old _ (by omega)]; exact hc15
          have hc12' : h7.get h4.next = .cells [.int .i64 (getR lb).2.1, .slice a4 (getR lb).2.2.1.length c4] 0 := by rw [x7.old _ (by omega)]; exact hc12
          simp (maxSteps := 1000000) (disch := first | decide | omega | (simp only [go_sem]; first | done | omega)) only [go_sem, Int.reduceToNat, Nat.reduceMul, Nat.reduceAdd, Nat.reduceSub, ↓EU_region, ↓EU_draw, hc15', hc12']
          repeat refine WPo_ob ?_
          refine ps.bind fun h8 x8 => ?_
          have hn8 := x8.le
          have hc15'' : h8.get h5.next = .cells [.int .i64 (getR lb).2.1, .slice a5 (getR lb).2.2.1.length c5] 0 := by rw [x8.old _ (by omega)]; exact hc15'
          have hc12'' : h8.get h4.next = .cells [.int .i64 (getR lb).2.1, .slice a4 (getR lb).2.2.1.length c4] 0 := by rw [x8.old _ (by omega)]; exact hc12'
          have ec1' := conv_str fc_un_25 fc_un_9 fc_un_5 (hs1.ext x7)
          have ec3' := conv_str fc_un_25 fc_un_9 fc_un_5 (hs3.ext x7)
          have ec1'' := conv_str fc_un_25 fc_un_9 fc_un_5 (hs1.ext (x7.trans x8))
          have ec3'' := conv_str fc_un_25 fc_un_9 fc_un_5 (hs3.ext (x7.trans x8))
          have hx68 := x7.trans x8
          have hdc : decide ((getR lb).2.1 = (getR lb).2.1) = true := decide_eq_true rfl
          have hdl : decide ((getR lb).2.2.1 = (getR lb).2.2.1) = true := decide_eq_true rfl
          have hv4 := (ho4.sl).veq
          have hv5 := (ho5.sl).veq
          have hvl : veqL [.int .i64 (getR lb).2.1, .slice a5 (getR lb).2.2.1.length c5] [.int .i64 (getR lb).2.1, .slice a5 (getR lb).2.2.1.length c5] = true := by
            rw [veqL_c _ _ _ _ (by simp) (by simp), veq_int, veqL_c _ _ _ _ (by simp) (by simp), hv5, veqL_n]; rfl
          skip
          simp (maxSteps := 1000000) (disch := first | decide | omega | (simp only [go_sem]; first | done | omega)) only [go_sem, Int.reduceToNat, Nat.reduceMul, Nat.reduceAdd, Nat.reduceSub, ↓EU_region, ↓EU_draw, ec1, ec3, ec1', ec3', ec1'', ec3'', hdc, hdl, hc12, hc15, hc12', hc15', hc12'', hc15'', hv4, hv5, hvl, hd2, hve]
        · have hde : decide ((getR lb).2.2.2 = 0) = false := decide_eq_false qe
          have hit : (getR lb).2.2.1.length = 0 := by rw [(getR_err qe).2.2]; rfl
          have hdi : decide (((getR lb).2.2.1.length : Int) = 0) = true := decide_eq_true (by omega)
          simp (maxSteps := 1000000) (disch := first | decide | omega | (simp only [go_sem]; first | done | omega)) only [go_sem, Int.reduceToNat, Nat.reduceMul, Nat.reduceAdd, Nat.reduceSub, ↓EU_region, ↓EU_draw, ec1, ec3, hte, htf, ht1, ht2, hde, hdi, hc12, hc15, hd2]
  · simp (maxSteps := 1000000) (disch := first | decide | omega | (simp only [go_sem]; first | done | omega)) only [go_sem, Int.reduceToNat, Nat.reduceMul, Nat.reduceAdd, Nat.reduceSub, ↓EU_region, ↓EU_draw, b1]
end Go.Proofs.Ytmejkljlnlpoaaa.EV
