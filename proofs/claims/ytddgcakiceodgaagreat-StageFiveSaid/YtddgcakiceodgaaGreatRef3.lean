/- Contract: the reference's Write, version 3. No condition. -/
import Derived.Test.YtddgcakiceodgaaGreatRef2
namespace Go.Proofs.YtddgcakiceodgaaGreat.EV
open Go Go.Proofs
set_option linter.unusedVariables false
set_option linter.unusedSimpArgs false
set_option maxRecDepth 100000
set_option pp.deepTerms false
set_option pp.deepTerms.threshold 20
theorem rwrite3_ev (tag cur : Int) (l : List Item) (s : Value) (h : Heap) (hs : SL itemE 3 h s l) (hl : l.length < 800000) :
    WPo (EF Tryz.prog O0 24 [.int .i64 3, .int .i64 tag, formV cur s] h) fun q => Ext h q.2 ∧ (cgood tag cur l = false → q.1 = .tuple ⟨[.slice none 0 1, .int .i64 1]⟩) ∧ (cgood tag cur l = true → ∃ u, q.1 = .tuple ⟨[u, .int .i64 0]⟩ ∧ OW byteE 1 q.2 u (sealN (encF tag cur l)) ∧ Fresh h.next u) := by
  have hG := rgood_ev cur l s (h.push (.cells [.int .i64 cur, s] 0)) (hs.ext ((Ext.refl h).push _)) (by omega)
  rw [EF_body (O := O0) (by kernel_rfl) Tryz.func24 rfl (rs := [.tmp 6, .tmp 7]) rfl (bad := [19, 23]) (by kernel_rfl) _ _ (m := 127) rfl]
  obtain ⟨a, c, hv⟩ := hs.val
  subst hv
  unfold formV at hG ⊢
  simp (maxSteps := 1000000) (disch := first | decide | omega | (simp only [go_sem]; first | done | omega)) only [go_sem, Int.reduceToNat, Nat.reduceMul, Nat.reduceAdd, Nat.reduceSub, ↓EU_region, ↓EU_draw]
  ((repeat refine WPo_ob ?_); (first | refine WPo_cond (fun b1 => ?_) (fun b1 => ?_) | refine WPo_gard (fun b1 => ?_) (fun b1 => ?_) | refine WPo_gardT (fun b1 => ?_) (fun b1 => ?_)) <;> (try simp only [Bool.not_eq_true', Bool.not_eq_false'] at b1))
  · have b1' := b1
    simp only [decide_eq_false_iff_not] at b1'
    simp (maxSteps := 1000000) (disch := first | decide | omega | (simp only [go_sem]; first | done | omega)) only [go_sem, Int.reduceToNat, Nat.reduceMul, Nat.reduceAdd, Nat.reduceSub, ↓EU_region, ↓EU_draw, b1]
    ((repeat refine WPo_ob ?_); (first | refine WPo_cond (fun b2 => ?_) (fun b2 => ?_) | refine WPo_gard (fun b2 => ?_) (fun b2 => ?_) | refine WPo_gardT (fun b2 => ?_) (fun b2 => ?_)) <;> (try simp only [Bool.not_eq_true', Bool.not_eq_false'] at b2))
    · have b2' := b2
      simp only [decide_eq_false_iff_not] at b2'
      simp (maxSteps := 1000000) (disch := first | decide | omega | (simp only [go_sem]; first | done | omega)) only [go_sem, Int.reduceToNat, Nat.reduceMul, Nat.reduceAdd, Nat.reduceSub, ↓EU_region, ↓EU_draw, b1, b2]
      repeat refine WPo_ob ?_
      refine hG.bind fun h1 x1 => ?_
      have hx1 := ((Ext.refl h).push (.cells [.int .i64 cur, .slice a l.length c] 0)).trans x1
      have hF1 : h1.get h.next = .cells [.int .i64 cur, .slice a l.length c] 0 := by rw [x1.old _ (by rw [next_push]; omega)]; exact get_push_new _ _
      have hcg : cgood tag cur l = goodF cur l := by
        unfold cgood
        rw [decide_eq_true (by omega : 0 ≤ tag), decide_eq_true (by omega : tag ≤ 2)]; rfl
      cases hg : cgood tag cur l with
      | false =>
        rw [hcg] at hg
        simp (maxSteps := 1000000) (disch := first | decide | omega | (simp only [go_sem]; first | done | omega)) only [go_sem, Int.reduceToNat, Nat.reduceMul, Nat.reduceAdd, Nat.reduceSub, ↓EU_region, ↓EU_draw, hg]
        exact ⟨hx1, by simp, by simp⟩
      | true =>
        have hgf : goodF cur l = true := by rw [← hcg]; exact hg
        obtain ⟨f1, f2, f3, f4⟩ := good_facts hgf
        have hn1 := x1.le
        rw [next_push] at hn1
        have hw3 : wrapF .u8 3 = 3 := rfl
        have hwt : wrapF .u8 tag = ((byteI tag 0).toNat : Int) := conv_i8 tag
        have hwl : wrapF .u8 (l.length : Int) = ((byteI (l.length : Int) 0).toNat : Int) := conv_i8 _
        simp (maxSteps := 1000000) (disch := first | decide | omega | (simp only [go_sem]; first | done | omega)) only [go_sem, Int.reduceToNat, Nat.reduceMul, Nat.reduceAdd, Nat.reduceSub, ↓EU_region, ↓EU_draw, dec_t, dec_f, hgf, hF1, hw3, hwt]
        repeat refine WPo_ob ?_
        refine (big_ev [83, 72, 3, byteI tag 0] _ (cur + 1) 4 _ (OW.lit byteE_len h1 [83, 72, 3, byteI tag 0]) (by decide) (by simp)).mono ?_
        rintro ⟨v2, h2⟩ ⟨ho2, gr2⟩
        simp only at ho2 gr2
        obtain ⟨x2, hf2⟩ := gr2.new
        have hF2 : h2.get h.next = .cells [.int .i64 cur, .slice a l.length c] 0 := by rw [x2.old _ (by omega)]; exact hF1
        simp (maxSteps := 1000000) (disch := first | decide | omega | (simp only [go_sem]; first | done | omega)) only [go_sem, Int.reduceToNat, Nat.reduceMul, Nat.reduceAdd, Nat.reduceSub, ↓EU_region, ↓EU_draw, hF2, hwl]
        repeat refine WPo_ob ?_
        refine append_own (h0 := h1) (l := [83, 72, 3, byteI tag 0] ++ numB (cur + 1) 4) (l' := [byteI (l.length : Int) 0]) fc_ap_37_37 (fun _ => rfl) (by decide) byteE_scal (x2.push _) (ho2.ext ((Ext.refl h2).push _)) hf2 (OW.lit byteE_len h2 [byteI (l.length : Int) 0]).sl (by simp [numB_len]) (by simp [numB_len]) fun v3 h3 ho3 hf3 x3 _ _ => ?_
        simp (maxSteps := 1000000) (disch := first | decide | omega | (simp only [go_sem]; first | done | omega)) only [go_sem, Int.reduceToNat, Nat.reduceMul, Nat.reduceAdd, Nat.reduceSub, ↓EU_region, ↓EU_draw]
        repeat refine WPo_ob ?_
        have hpre : encF tag cur l = ([83, 72, 3, byteI tag 0] ++ numB (cur + 1) 4 ++ [byteI (l.length : Int) 0]) ++ l.flatMap encItem := by
          unfold encF; simp only [List.append_assoc, List.cons_append, List.nil_append]
        generalize ([83, 72, 3, byteI tag 0] ++ numB (cur + 1) 4 ++ [byteI (l.length : Int) 0]) = pre at *
        have hpl : pre.length + 13 * l.length < 800000 := by
          have := encF_len tag cur l
          rw [hpre, List.length_append, flatMap_enc_len] at this
          omega
        refine (LP_rule (fun m st => ∃ (i : Nat) (tm : Fr) (h' : Heap) (v : Value), st = ⟨tm, h', []⟩ ∧ m = l.length - i ∧ i ≤ l.length ∧ Fr.get tm 8 = v ∧ Fr.get tm 0 = .int .i64 3 ∧ Fr.get tm 5 = ptr h.next 0 ∧ Fr.get tm 9 = .int .i64 i ∧ OW byteE 1 h' v (pre ++ (l.take i).flatMap encItem) ∧ Fresh h1.next v ∧ Ext h1 h')
          (fun q => ∃ tm h' v, q.2 = ⟨tm, h', []⟩ ∧ q.1 = .exit 1 ∧ Fr.get tm 8 = v ∧ OW byteE 1 h' v (pre ++ l.flatMap encItem) ∧ Fresh h1.next v ∧ Ext h1 h') ?_ l.length _ _ ?_ ?_).mono ?_
        · rintro m _ ⟨i, tm, h', v, rfl, rfl, hi, g8, g0, g5, g9, ho', hf', x'⟩
          have hF' : h'.get h.next = .cells [.int .i64 cur, .slice a l.length c] 0 := by rw [x'.old _ (by omega)]; exact hF1
          simp (maxSteps := 1000000) (disch := first | decide | omega | (simp only [go_sem]; first | done | omega)) only [go_sem, Int.reduceToNat, Nat.reduceMul, Nat.reduceAdd, Nat.reduceSub, ↓EU_region, ↓EU_draw, g8, g0, g5, g9, hF']
          ((repeat refine WPo_ob ?_); (first | refine WPo_cond (fun b3 => ?_) (fun b3 => ?_) | refine WPo_gard (fun b3 => ?_) (fun b3 => ?_) | refine WPo_gardT (fun b3 => ?_) (fun b3 => ?_)) <;> (try simp only [Bool.not_eq_true', Bool.not_eq_false'] at b3))
          · have b3' := b3
            simp only [decide_eq_true_eq] at b3'
            have hi' : i < l.length := by omega
            obtain ⟨x, hx⟩ : ∃ x, l[i]? = some x := ⟨_, List.getElem?_eq_getElem hi'⟩
            obtain ⟨b, o, c', e, hb', hrd, hr⟩ := (hs.ext hx1).at hx rfl
            cases e
            rw [← x'.old b hb'] at hrd hr
            have hil : (l.take i).length = i := by rw [List.length_take]; omega
            have hfl := flatMap_enc_len (l.take i)
            rw [hil] at hfl
            have hnx : pre ++ (l.take (i + 1)).flatMap encItem = pre ++ (l.take i).flatMap encItem ++ numB x.id 4 ++ [byteI x.w 0] ++ numB x.lag 8 := by
              rw [List.take_add_one, hx]
              simp [encItem]
            simp (maxSteps := 1000000) (disch := first | decide | omega | (simp only [go_sem]; first | done | omega)) only [go_sem, Int.reduceToNat, Nat.reduceMul, Nat.reduceAdd, Nat.reduceSub, g8, g0, g5, g9, hF', hrd]
            (first | rw [EU_region] | rw [EU_draw _ _ rfl]); simp (maxSteps := 1000000) (disch := first | decide | omega | (simp only [go_sem]; first | done | omega)) only [go_sem, Int.reduceToNat, Nat.reduceMul, Nat.reduceAdd, Nat.reduceSub, g8, g0, g5, g9, hF', hrd]
            (first | rw [EU_region] | rw [EU_draw _ _ rfl]); simp (maxSteps := 1000000) (disch := first | decide | omega | (simp only [go_sem]; first | done | omega)) only [go_sem, Int.reduceToNat, Nat.reduceMul, Nat.reduceAdd, Nat.reduceSub, g8, g0, g5, g9, hF', hrd, dec_t]
            rw [EU_bad _ _ rfl, EC_tab (tab := [(false, none), (false, none), (false, none), (true, none), (false, none), (false, (some (0, 1))), (false, none), (true, none), (true, none), (false, none), (false, (some (0, 3))), (true, none), (false, none)]) (by kernel_rfl)]
            have hwx : wrapF .u8 x.w = ((byteI x.w 0).toNat : Int) := conv_i8 _
            simp (maxSteps := 1000000) (disch := first | decide | omega | (simp only [go_sem]; first | done | omega)) only [go_sem, Int.reduceToNat, Nat.reduceMul, Nat.reduceAdd, Nat.reduceSub, ↓EU_region, ↓EU_draw, g8, g0, g5, g9, hF', hrd]
            repeat refine WPo_ob ?_
            refine (big_ev _ v x.id 4 _ (ho'.ext ((Ext.refl h').push _)) (by decide) (by rw [List.length_append]; omega)).mono ?_
            rintro ⟨v4, h4⟩ ⟨ho4, gr4⟩
            simp only at ho4 gr4
            have hv' : ¬ blkOf v h'.next := fun q => by have := ho'.lt q; omega
            have hv4 : ¬ blkOf v4 h'.next := fun q => by
              rcases gr4.src _ q with q | q
              · exact hv' q
              · rw [next_push] at q; omega
            have hc4 : h4.get h'.next = .cells (itemE x) 0 := by rw [gr4.old _ (by rw [next_push]; omega) hv']; exact get_push_new _ _
            have hn4 := gr4.le
            rw [next_push] at hn4
            simp (maxSteps := 1000000) (disch := first | decide | omega | (simp only [go_sem]; first | done | omega)) only [go_sem, Int.reduceToNat, Nat.reduceMul, Nat.reduceAdd, Nat.reduceSub, ↓EU_region, ↓EU_draw, hc4, hwx]
            repeat refine WPo_ob ?_
            refine append_gr (l := pre ++ (l.take i).flatMap encItem ++ numB x.id 4) (l' := [byteI x.w 0]) fc_ap_37_37 (fun _ => rfl) (by decide) byteE_scal (ho4.ext ((Ext.refl h4).push _)) (OW.lit byteE_len h4 [byteI x.w 0]).sl (by simp only [List.length_append, numB_len, List.length_cons, List.length_nil]; omega) (by simp only [List.length_append, numB_len, List.length_cons, List.length_nil]; omega) fun v5 h5 ho5 gr5 => ?_
            have hc5 : h5.get h'.next = .cells (itemE x) 0 := by rw [gr5.old _ (by rw [next_push]; omega) hv4, get_push_old _ (by omega)]; exact hc4
            have hn5 := gr5.le
            rw [next_push] at hn5
            simp (maxSteps := 1000000) (disch := first | decide | omega | (simp only [go_sem]; first | done | omega)) only [go_sem, Int.reduceToNat, Nat.reduceMul, Nat.reduceAdd, Nat.reduceSub, ↓EU_region, ↓EU_draw, hc5]
            repeat refine WPo_ob ?_
            refine (big_ev _ v5 x.lag 8 _ ho5 (by decide) (by simp only [List.length_append, numB_len, List.length_cons, List.length_nil]; omega)).mono ?_
            rintro ⟨v6, h6⟩ ⟨ho6, gr6⟩
            simp only at ho6 gr6
            rw [← hnx] at ho6
            have gr : Gr v (h'.push (.cells (itemE x) 0)) v6 h6 := (((gr4.push _).trans gr5)).trans gr6
            simp (maxSteps := 1000000) (disch := first | decide | omega | (simp only [go_sem]; first | done | omega)) only [go_sem, Int.reduceToNat, Nat.reduceMul, Nat.reduceAdd, Nat.reduceSub, ↓EU_region, ↓EU_draw, hc4, hc5, g9]
            exact ⟨_, by omega, i + 1, _, h6, v6, rfl, rfl, by omega, by simp (maxSteps := 1000000) (disch := first | decide | omega | (simp only [go_sem]; first | done | omega)) only [go_sem, Int.reduceToNat, Nat.reduceMul, Nat.reduceAdd, Nat.reduceSub, ↓EU_region, ↓EU_draw], by simp (maxSteps := 1000000) (disch := first | decide | omega | (simp only [go_sem]; first | done | omega)) only [go_sem, Int.reduceToNat, Nat.reduceMul, Nat.reduceAdd, Nat.reduceSub, ↓EU_region, ↓EU_draw, g0], by simp (maxSteps := 1000000) (disch := first | decide | omega | (simp only [go_sem]; first | done | omega)) only [go_sem, Int.reduceToNat, Nat.reduceMul, Nat.reduceAdd, Nat.reduceSub, ↓EU_region, ↓EU_draw, g5], by simp (maxSteps := 1000000) (disch := first | decide | omega | (simp only [go_sem]; first | done | omega)) only [go_sem, Int.reduceToNat, Nat.reduceMul, Nat.reduceAdd, Nat.reduceSub, ↓EU_region, ↓EU_draw], ho6, gr.fresh hf' (by have := x'.le; rw [next_push]; omega), gr.ext0 (x'.push _) hf'⟩
          · simp only [decide_eq_false_iff_not] at b3
            have : i = l.length := by omega
            subst this
            rw [List.take_length] at ho'
            simp (maxSteps := 1000000) (disch := first | decide | omega | (simp only [go_sem]; first | done | omega)) only [go_sem, Int.reduceToNat, Nat.reduceMul, Nat.reduceAdd, Nat.reduceSub, ↓EU_region, ↓EU_draw]
            exact ⟨_, _, v, rfl, trivial, by simp (maxSteps := 1000000) (disch := first | decide | omega | (simp only [go_sem]; first | done | omega)) only [go_sem, Int.reduceToNat, Nat.reduceMul, Nat.reduceAdd, Nat.reduceSub, ↓EU_region, ↓EU_draw, g8], ho', hf', x'⟩
        · refine ⟨0, _, h3, v3, rfl, rfl, by omega, by simp (maxSteps := 1000000) (disch := first | decide | omega | (simp only [go_sem]; first | done | omega)) only [go_sem, Int.reduceToNat, Nat.reduceMul, Nat.reduceAdd, Nat.reduceSub, ↓EU_region, ↓EU_draw], by simp (maxSteps := 1000000) (disch := first | decide | omega | (simp only [go_sem]; first | done | omega)) only [go_sem, Int.reduceToNat, Nat.reduceMul, Nat.reduceAdd, Nat.reduceSub, ↓EU_region, ↓EU_draw], by simp (maxSteps := 1000000) (disch := first | decide | omega | (simp only [go_sem]; first | done | omega)) only [go_sem, Int.reduceToNat, Nat.reduceMul, Nat.reduceAdd, Nat.reduceSub, ↓EU_region, ↓EU_draw], by simp (maxSteps := 1000000) (disch := first | decide | omega | (simp only [go_sem]; first | done | omega)) only [go_sem, Int.reduceToNat, Nat.reduceMul, Nat.reduceAdd, Nat.reduceSub, ↓EU_region, ↓EU_draw]; rfl, ?_, hf3, x3⟩
          rw [List.take_zero, List.flatMap_nil, List.append_nil]; exact ho3
        · omega
        · rintro ⟨q, _⟩ ⟨tm, h', v, rfl, rfl, g8, ho', hf', x'⟩
          simp (maxSteps := 1000000) (disch := first | decide | omega | (simp only [go_sem]; first | done | omega)) only [go_sem, Int.reduceToNat, Nat.reduceMul, Nat.reduceAdd, Nat.reduceSub, ↓EU_region, ↓EU_draw, g8]
          repeat refine WPo_ob ?_
          refine (rseal_ev _ v h' ho'.sl (by rw [List.length_append, flatMap_enc_len]; omega)).mono ?_
          rintro ⟨u, h''⟩ ⟨hou, hfu, xu⟩
          simp only at hou hfu xu
          simp (maxSteps := 1000000) (disch := first | decide | omega | (simp only [go_sem]; first | done | omega)) only [go_sem, Int.reduceToNat, Nat.reduceMul, Nat.reduceAdd, Nat.reduceSub, ↓EU_region, ↓EU_draw]
          rw [hpre]
          refine ⟨hx1.trans (x'.trans xu), by simp, fun _ => ⟨u, rfl, hou, hfu.mono ?_⟩⟩
          have := x'.le
          have := hx1.le
          omega
    · have b2' := b2
      simp only [decide_eq_true_eq] at b2'
      have hg : cgood tag cur l = false := by unfold cgood; rw [decide_eq_false (by omega : ¬ tag ≤ 2)]; simp
      simp (maxSteps := 1000000) (disch := first | decide | omega | (simp only [go_sem]; first | done | omega)) only [go_sem, Int.reduceToNat, Nat.reduceMul, Nat.reduceAdd, Nat.reduceSub, ↓EU_region, ↓EU_draw, b2]
      exact ⟨(Ext.refl h).push _, by simp, by simp [hg]⟩
  · have b1' := b1
    simp only [decide_eq_true_eq] at b1'
    have hg : cgood tag cur l = false := by unfold cgood; rw [decide_eq_false (by omega : ¬ 0 ≤ tag)]; simp
    simp (maxSteps := 1000000) (disch := first | decide | omega | (simp only [go_sem]; first | done | omega)) only [go_sem, Int.reduceToNat, Nat.reduceMul, Nat.reduceAdd, Nat.reduceSub, ↓EU_region, ↓EU_draw, b1]
    exact ⟨(Ext.refl h).push _, by simp, by simp [hg]⟩
end Go.Proofs.YtddgcakiceodgaaGreat.EV
