/- Contract: elder's Two. No condition. -/
import Derived.Test.YtlandojofjkeaaaElder5
namespace Go.Proofs.Ytlandojofjkeaaa.EV
open Go Go.Proofs
set_option linter.unusedVariables false
set_option linter.unusedSimpArgs false
set_option maxRecDepth 100000
set_option pp.deepTerms false
set_option pp.deepTerms.threshold 20
noncomputable def encIt2 (x : Item) : List UInt8 := numB x.id 2 ++ [byteI x.w 0] ++ numB (scl x) 4
noncomputable def preV2 (tag cur n : Int) : List UInt8 := [83, 72, 2, byteI tag 0] ++ numB (cur + 1) 2 ++ [byteI n 0]
noncomputable def encV2 (tag cur : Int) (l : List Item) : List UInt8 := preV2 tag cur l.length ++ l.flatMap encIt2
theorem encIt2_len (x : Item) : (encIt2 x).length = 7 := by
  unfold encIt2
  rw [List.length_append, List.length_append, numB_len, numB_len]; rfl
theorem preV2_len (tag cur n : Int) : (preV2 tag cur n).length = 7 := by
  unfold preV2
  rw [List.length_append, List.length_append, numB_len]; rfl
theorem flatMap_len2 (l : List Item) : (l.flatMap encIt2).length = 7 * l.length := by
  induction l with
  | nil => rfl
  | cons x l ih => rw [List.flatMap_cons, List.length_append, ih, encIt2_len, List.length_cons]; omega
noncomputable def can2 (cur : Int) (l : List Item) : Bool := decide (cur < 65535) && !l.any odd2
set_option maxHeartbeats 4000000 in
theorem two_ev (tag cur : Int) (l : List Item) (s : Value) (h : Heap) (hs : SL itemE 3 h s l) (hl : l.length < 800000) :
    WPo (EF Try.prog O0 15 [.int .i64 tag, formV cur s] h) fun q => Ext h q.2 ∧ ∃ u, q.1 = .tuple ⟨[u, .int .i64 (if cgood tag cur l then (if can2 cur l then 0 else 7) else 1)]⟩ ∧ SL byteE 1 q.2 u (if cgood tag cur l then (if can2 cur l then sealN (encV2 tag cur l) else []) else []) := by
  have hG := cgood_ev tag cur l s (h.push (.cells [.int .i64 cur, s] 0)) (hs.ext ((Ext.refl h).push _)) (by omega)
  rw [EF_body (O := O0) (by kernel_rfl) Try.func15 rfl (rs := [.tmp 4, .tmp 5]) rfl (bad := [11]) (by kernel_rfl) _ _ (m := 61) rfl]
  obtain ⟨a, c, hv⟩ := hs.val
  subst hv
  unfold formV at hG ⊢
  simp (maxSteps := 1000000) (disch := first | decide | omega | (simp only [go_sem]; first | done | omega)) only [go_sem, Int.reduceToNat, Nat.reduceMul, Nat.reduceAdd, Nat.reduceSub, ↓EU_region, ↓EU_draw]
  repeat refine WPo_ob ?_
  refine hG.bind fun h1 x1 => ?_
  have hx1 := ((Ext.refl h).push (.cells [.int .i64 cur, .slice a l.length c] 0)).trans x1
  have hF1 : h1.get h.next = .cells [.int .i64 cur, .slice a l.length c] 0 := by rw [x1.old _ (by rw [next_push]; omega)]; exact get_push_new _ _
  cases hg : cgood tag cur l with
  | false =>
    simp (maxSteps := 1000000) (disch := first | decide | omega | (simp only [go_sem]; first | done | omega)) only [go_sem, Int.reduceToNat, Nat.reduceMul, Nat.reduceAdd, Nat.reduceSub, ↓EU_region, ↓EU_draw]
    exact ⟨hx1, _, rfl, SL.nil⟩
  | true =>
    have hgf := (cgood_facts hg).2.2
    obtain ⟨f1, f2, f3, f4⟩ := good_facts hgf
    have hn1 := x1.le
    rw [next_push] at hn1
    simp (maxSteps := 1000000) (disch := first | decide | omega | (simp only [go_sem]; first | done | omega)) only [go_sem, Int.reduceToNat, Nat.reduceMul, Nat.reduceAdd, Nat.reduceSub, ↓EU_region, ↓EU_draw, hF1]
    ((repeat refine WPo_ob ?_); (first | refine WPo_cond (fun b1 => ?_) (fun b1 => ?_) | refine WPo_gard (fun b1 => ?_) (fun b1 => ?_) | refine WPo_gardT (fun b1 => ?_) (fun b1 => ?_)) <;> (try simp only [Bool.not_eq_true', Bool.not_eq_false'] at b1))
    · have b1' := b1
      simp only [decide_eq_false_iff_not] at b1'
      simp (maxSteps := 1000000) (disch := first | decide | omega | (simp only [go_sem]; first | done | omega)) only [go_sem, Int.reduceToNat, Nat.reduceMul, Nat.reduceAdd, Nat.reduceSub, ↓EU_region, ↓EU_draw, dec_t, dec_f, b1, hF1]
      repeat refine WPo_ob ?_
      refine (contains_ev l _ odd2 37 [] h1 (hs.ext hx1) (by omega) (fun x hx h' _ => odd2_ev x h' (f4 x hx))).bind fun h2 x2 => ?_
      have hF2 : h2.get h.next = .cells [.int .i64 cur, .slice a l.length c] 0 := by rw [x2.old _ (by omega)]; exact hF1
      have hx2 := hx1.trans x2
      have hn2 := x2.le
      have hc2 : can2 cur l = !l.any odd2 := by unfold can2; rw [decide_eq_true (by omega : cur < 65535)]; rfl
      rw [hc2]
      cases ho : l.any odd2 with
      | true =>
        simp (maxSteps := 1000000) (disch := first | decide | omega | (simp only [go_sem]; first | done | omega)) only [go_sem, Int.reduceToNat, Nat.reduceMul, Nat.reduceAdd, Nat.reduceSub, ↓EU_region, ↓EU_draw, dec_t, dec_f, ho]
        exact ⟨hx2, _, rfl, SL.nil⟩
      | false =>
        have hwt : wrapF .u8 tag = ((byteI tag 0).toNat : Int) := conv_i8 tag
        have hwl : wrapF .u8 (l.length : Int) = ((byteI (l.length : Int) 0).toNat : Int) := conv_i8 _
        simp (maxSteps := 1000000) (disch := first | decide | omega | (simp only [go_sem]; first | done | omega)) only [go_sem, Int.reduceToNat, Nat.reduceMul, Nat.reduceAdd, Nat.reduceSub, ↓EU_region, ↓EU_draw, dec_t, dec_f, ho, hF2, hwt]
        repeat refine WPo_ob ?_
        refine (number_ev [83, 72, 2, byteI tag 0] _ (cur + 1) 2 _ (OW.lit byteE_len h2 [83, 72, 2, byteI tag 0]) (by decide) (by simp)).mono ?_
        rintro ⟨w3, h3⟩ ⟨ho3, gr3⟩
        simp only at ho3 gr3
        obtain ⟨x3, hf3⟩ := gr3.new
        have hF3 : h3.get h.next = .cells [.int .i64 cur, .slice a l.length c] 0 := by rw [x3.old _ (by omega)]; exact hF2
        simp (maxSteps := 1000000) (disch := first | decide | omega | (simp only [go_sem]; first | done | omega)) only [go_sem, Int.reduceToNat, Nat.reduceMul, Nat.reduceAdd, Nat.reduceSub, ↓EU_region, ↓EU_draw, hF3, hwl]
        repeat refine WPo_ob ?_
        refine append_own (h0 := h2) (l := [83, 72, 2, byteI tag 0] ++ numB (cur + 1) 2) (l' := [byteI (l.length : Int) 0]) fc_ap_22_22 (fun _ => rfl) (by decide) byteE_scal (x3.push _) (ho3.ext ((Ext.refl h3).push _)) hf3 (OW.lit byteE_len h3 [byteI (l.length : Int) 0]).sl (by simp [numB_len]) (by simp [numB_len]) fun v4 h4 ho4 hf4 x4 _ _ => ?_
        have hF4 : h4.get h.next = .cells [.int .i64 cur, .slice a l.length c] 0 := by rw [x4.old _ (by omega)]; exact hF2
        simp (maxSteps := 1000000) (disch := first | decide | omega | (simp only [go_sem]; first | done | omega)) only [go_sem, Int.reduceToNat, Nat.reduceMul, Nat.reduceAdd, Nat.reduceSub, ↓EU_region, ↓EU_draw, hF4]
        repeat refine WPo_ob ?_
        have hE : encV2 tag cur l = preV2 tag cur l.length ++ l.flatMap encIt2 := rfl
        rw [show [83, 72, 2, byteI tag 0] ++ numB (cur + 1) 2 ++ [byteI (l.length : Int) 0] = preV2 tag cur l.length from rfl] at ho4
        rw [hE]
        have hpl := preV2_len tag cur l.length
        generalize preV2 tag cur l.length = pre at *
        have hx := hs.ext hx2
        refine (LP_rule (fun m st => ∃ (i : Nat) (tm : Fr) (h' : Heap) (v : Value), st = ⟨tm, h', []⟩ ∧ m = l.length - i ∧ i ≤ l.length ∧ Fr.get tm 7 = v ∧ Fr.get tm 38 = .slice a l.length c ∧ Fr.get tm 39 = .int .i64 l.length ∧ Fr.get tm 40 = .int .i64 i ∧ OW byteE 1 h' v (pre ++ (l.take i).flatMap encIt2) ∧ Fresh h2.next v ∧ Ext h2 h')
          (fun q => ∃ tm h' v, q.2 = ⟨tm, h', []⟩ ∧ q.1 = .exit 0 ∧ Fr.get tm 7 = v ∧ OW byteE 1 h' v (pre ++ l.flatMap encIt2) ∧ Fresh h2.next v ∧ Ext h2 h') ?_ l.length _ _ ?_ ?_).mono ?_
        · rintro m _ ⟨i, tm, h', v, rfl, rfl, hi, g7, g38, g39, g40, ho', hf', x'⟩
          simp (maxSteps := 1000000) (disch := first | decide | omega | (simp only [go_sem]; first | done | omega)) only [go_sem, Int.reduceToNat, Nat.reduceMul, Nat.reduceAdd, Nat.reduceSub, ↓EU_region, ↓EU_draw, g7, g38, g39, g40]
          ((repeat refine WPo_ob ?_); (first | refine WPo_cond (fun b3 => ?_) (fun b3 => ?_) | refine WPo_gard (fun b3 => ?_) (fun b3 => ?_) | refine WPo_gardT (fun b3 => ?_) (fun b3 => ?_)) <;> (try simp only [Bool.not_eq_true', Bool.not_eq_false'] at b3))
          · have b3' := b3
            simp only [decide_eq_true_eq] at b3'
            have hi' : i < l.length := by omega
            obtain ⟨x, hx'⟩ : ∃ x, l[i]? = some x := ⟨_, List.getElem?_eq_getElem hi'⟩
            obtain ⟨b, o, c', e, hb', hrd, hr⟩ := hx.at hx' rfl
            cases e
            rw [← x'.old b hb'] at hrd hr
            have hil : (l.take i).length = i := by rw [List.length_take]; omega
            have hfl := flatMap_len2 (l.take i)
            rw [hil] at hfl
            have fx := imay_facts (f4 x (List.mem_of_getElem? hx'))
            have hwx : wrapF .u8 x.w = ((byteI x.w 0).toNat : Int) := conv_i8 _
            have hq := bin_quo Try.prog 2 (.tmp 55) (.const (.int .i64 232792560)) .i64 x.lag 232792560 (by decide)
            rw [wrap64 (by
              have := Int.tdiv_mul_add_tmod x.lag 232792560
              have k1 := Int.tmod_lt_of_pos x.lag (show (0 : Int) < 232792560 by decide)
              have k2 := Int.lt_tmod_of_pos x.lag (show (0 : Int) < 232792560 by decide)
              omega), show x.lag.tdiv 232792560 = scl x from rfl] at hq
            have hnx : pre ++ (l.take (i + 1)).flatMap encIt2 = pre ++ (l.take i).flatMap encIt2 ++ numB x.id 2 ++ [byteI x.w 0] ++ numB (scl x) 4 := by
              rw [List.take_add_one, hx']
              simp [encIt2]
            simp (maxSteps := 1000000) (disch := first | decide | omega | (simp only [go_sem]; first | done | omega)) only [go_sem, Int.reduceToNat, Nat.reduceMul, Nat.reduceAdd, Nat.reduceSub, g7, g38, g39, g40, hrd]
            (first | rw [EU_region] | rw [EU_draw _ _ rfl]); simp (maxSteps := 1000000) (disch := first | decide | omega | (simp only [go_sem]; first | done | omega)) only [go_sem, Int.reduceToNat, Nat.reduceMul, Nat.reduceAdd, Nat.reduceSub, g7, g38, g39, g40, hrd]
            rw [EU_bad _ _ rfl, EC_tab (tab := [(false, none), (false, none), (false, none), (true, none), (false, none), (false, (some (0, 1))), (false, none), (true, none), (true, none), (false, none)]) (by kernel_rfl)]
            simp (maxSteps := 1000000) (disch := first | decide | omega | (simp only [go_sem]; first | done | omega)) only [go_sem, Int.reduceToNat, Nat.reduceMul, Nat.reduceAdd, Nat.reduceSub, ↓EU_region, ↓EU_draw, g7, g38, g39, g40, hrd]
            repeat refine WPo_ob ?_
            refine (number_ev _ v x.id 2 _ (ho'.ext ((Ext.refl h').push _)) (by decide) (by rw [List.length_append]; omega)).mono ?_
            rintro ⟨v4, h4⟩ ⟨ho4, gr4⟩
            simp only at ho4 gr4
            have hv' : ¬ blkOf v h'.next := fun q => by have := ho'.lt q; omega
            have hv4 : ¬ blkOf v4 h'.next := fun q => by
              rcases gr4.src _ q with q | q
              · exact hv' q
              · rw [next_push] at q; omega
            have hc4 : h4.get h'.next = .cells (itemE x) 0 := by rw [gr4.old _ (by rw [next_push]; omega) hv']; exact get_push_new _ _
            have hn4 := gr4.le
            rw [next_push] at hn4
            simp (maxSteps := 1000000) (disch := first | decide | omega | (simp only [go_sem]; first | done | omega)) only [go_sem, Int.reduceToNat, Nat.reduceMul, Nat.reduceAdd, Nat.reduceSub, ↓EU_region, ↓EU_draw, hc4, hwx]
            repeat refine WPo_ob ?_
            refine append_gr (l := pre ++ (l.take i).flatMap encIt2 ++ numB x.id 2) (l' := [byteI x.w 0]) fc_ap_22_22 (fun _ => rfl) (by decide) byteE_scal (ho4.ext ((Ext.refl h4).push _)) (OW.lit byteE_len h4 [byteI x.w 0]).sl (by simp only [List.length_append, numB_len, List.length_cons, List.length_nil]; omega) (by simp only [List.length_append, numB_len, List.length_cons, List.length_nil]; omega) fun v5 h5 ho5 gr5 => ?_
            have hc5 : h5.get h'.next = .cells (itemE x) 0 := by rw [gr5.old _ (by rw [next_push]; omega) hv4, get_push_old _ (by omega)]; exact hc4
            have hn5 := gr5.le
            rw [next_push] at hn5
            simp (maxSteps := 1000000) (disch := first | decide | omega | (simp only [go_sem]; first | done | omega)) only [go_sem, Int.reduceToNat, Nat.reduceMul, Nat.reduceAdd, Nat.reduceSub, ↓EU_region, ↓EU_draw, hc4, hc5, hq]
            repeat refine WPo_ob ?_
            refine (number_ev _ v5 (scl x) 4 _ ho5 (by decide) (by simp only [List.length_append, numB_len, List.length_cons, List.length_nil]; omega)).mono ?_
            rintro ⟨v6, h6⟩ ⟨ho6, gr6⟩
            simp only at ho6 gr6
            rw [← hnx] at ho6
            have gr : Gr v (h'.push (.cells (itemE x) 0)) v6 h6 := (((gr4.push _).trans gr5)).trans gr6
            simp (maxSteps := 1000000) (disch := first | decide | omega | (simp only [go_sem]; first | done | omega)) only [go_sem, Int.reduceToNat, Nat.reduceMul, Nat.reduceAdd, Nat.reduceSub, ↓EU_region, ↓EU_draw, hc4, hc5, g40]
            exact ⟨_, by omega, i + 1, _, h6, v6, rfl, rfl, by omega, by simp (maxSteps := 1000000) (disch := first | decide | omega | (simp only [go_sem]; first | done | omega)) only [go_sem, Int.reduceToNat, Nat.reduceMul, Nat.reduceAdd, Nat.reduceSub, ↓EU_region, ↓EU_draw], by simp (maxSteps := 1000000) (disch := first | decide | omega | (simp only [go_sem]; first | done | omega)) only [go_sem, Int.reduceToNat, Nat.reduceMul, Nat.reduceAdd, Nat.reduceSub, ↓EU_region, ↓EU_draw, g38], by simp (maxSteps := 1000000) (disch := first | decide | omega | (simp only [go_sem]; first | done | omega)) only [go_sem, Int.reduceToNat, Nat.reduceMul, Nat.reduceAdd, Nat.reduceSub, ↓EU_region, ↓EU_draw, g39], by simp (maxSteps := 1000000) (disch := first | decide | omega | (simp only [go_sem]; first | done | omega)) only [go_sem, Int.reduceToNat, Nat.reduceMul, Nat.reduceAdd, Nat.reduceSub, ↓EU_region, ↓EU_draw], ho6, gr.fresh hf' (by have := x'.le; rw [next_push]; omega), gr.ext0 (x'.push _) hf'⟩
          · simp only [decide_eq_false_iff_not] at b3
            have : i = l.length := by omega
            subst this
            rw [List.take_length] at ho'
            simp (maxSteps := 1000000) (disch := first | decide | omega | (simp only [go_sem]; first | done | omega)) only [go_sem, Int.reduceToNat, Nat.reduceMul, Nat.reduceAdd, Nat.reduceSub, ↓EU_region, ↓EU_draw]
            exact ⟨_, _, v, rfl, trivial, by simp (maxSteps := 1000000) (disch := first | decide | omega | (simp only [go_sem]; first | done | omega)) only [go_sem, Int.reduceToNat, Nat.reduceMul, Nat.reduceAdd, Nat.reduceSub, ↓EU_region, ↓EU_draw, g7], ho', hf', x'⟩
        · refine ⟨0, _, h4, v4, rfl, rfl, by omega, by simp (maxSteps := 1000000) (disch := first | decide | omega | (simp only [go_sem]; first | done | omega)) only [go_sem, Int.reduceToNat, Nat.reduceMul, Nat.reduceAdd, Nat.reduceSub, ↓EU_region, ↓EU_draw], by simp (maxSteps := 1000000) (disch := first | decide | omega | (simp only [go_sem]; first | done | omega)) only [go_sem, Int.reduceToNat, Nat.reduceMul, Nat.reduceAdd, Nat.reduceSub, ↓EU_region, ↓EU_draw], by simp (maxSteps := 1000000) (disch := first | decide | omega | (simp only [go_sem]; first | done | omega)) only [go_sem, Int.reduceToNat, Nat.reduceMul, Nat.reduceAdd, Nat.reduceSub, ↓EU_region, ↓EU_draw], by simp (maxSteps := 1000000) (disch := first | decide | omega | (simp only [go_sem]; first | done | omega)) only [go_sem, Int.reduceToNat, Nat.reduceMul, Nat.reduceAdd, Nat.reduceSub, ↓EU_region, ↓EU_draw]; rfl, ?_, hf4, x4⟩
          rw [List.take_zero, List.flatMap_nil, List.append_nil]; exact ho4
        · omega
        · rintro ⟨q, _⟩ ⟨tm, h', v, rfl, rfl, g7, ho', hf', x'⟩
          simp (maxSteps := 1000000) (disch := first | decide | omega | (simp only [go_sem]; first | done | omega)) only [go_sem, Int.reduceToNat, Nat.reduceMul, Nat.reduceAdd, Nat.reduceSub, ↓EU_region, ↓EU_draw, g7]
          repeat refine WPo_ob ?_
          refine (put_ev _ v h' ho'.sl (by rw [List.length_append, flatMap_len2]; omega)).mono ?_
          rintro ⟨u, h''⟩ ⟨hou, hfu, xu⟩
          simp only at hou hfu xu
          simp (maxSteps := 1000000) (disch := first | decide | omega | (simp only [go_sem]; first | done | omega)) only [go_sem, Int.reduceToNat, Nat.reduceMul, Nat.reduceAdd, Nat.reduceSub, ↓EU_region, ↓EU_draw]
          exact ⟨hx2.trans (x'.trans xu), _, rfl, hou.sl⟩
    · have b1' := b1
      simp only [decide_eq_true_eq] at b1'
      have hcn : can2 cur l = false := by unfold can2; rw [decide_eq_false (by omega : ¬ cur < 65535)]; rfl
      rw [hcn]
      simp (maxSteps := 1000000) (disch := first | decide | omega | (simp only [go_sem]; first | done | omega)) only [go_sem, Int.reduceToNat, Nat.reduceMul, Nat.reduceAdd, Nat.reduceSub, ↓EU_region, ↓EU_draw, dec_t, dec_f, b1, hF1]
      exact ⟨hx1, _, rfl, SL.nil⟩
end Go.Proofs.Ytlandojofjkeaaa.EV
