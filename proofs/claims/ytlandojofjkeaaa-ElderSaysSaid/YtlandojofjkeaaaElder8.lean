/- Contracts: the reference's Write, versions 1 and 2. No condition. -/
import Derived.Test.YtlandojofjkeaaaElder7
namespace Go.Proofs.Ytlandojofjkeaaa.EV
open Go Go.Proofs
set_option linter.unusedVariables false
set_option linter.unusedSimpArgs false
set_option maxRecDepth 100000
set_option pp.deepTerms false
set_option pp.deepTerms.threshold 20
theorem odd2_parts {x : Item} (h : imay x = true) : odd2 x = (decide (65535 < x.id) || (!decide (x.lag.tmod 232792560 = 0) || (decide (scl x < -2147483648) || decide (2147483647 < scl x)))) := by
  have fx := imay_facts h
  have h1 := Int.tdiv_mul_add_tmod x.lag 232792560
  have hs : scl x = x.lag.tdiv 232792560 := rfl
  rw [← hs] at h1
  have k1 := Int.tmod_lt_of_pos x.lag (show (0 : Int) < 232792560 by decide)
  have k2 := Int.lt_tmod_of_pos x.lag (show (0 : Int) < 232792560 by decide)
  have e1 : decide (scl x * 232792560 = x.lag) = decide (x.lag.tmod 232792560 = 0) := by rw [decide_eq_decide]; omega
  have hw : wrapF .i32 (scl x) = if 2147483648 ≤ scl x % 4294967296 then scl x % 4294967296 - 4294967296 else scl x % 4294967296 := by
    show cnd (true && decide ((2147483648 : Int) ≤ Int.emod (scl x) 4294967296)) (Int.emod (scl x) 4294967296 - 4294967296) (Int.emod (scl x) 4294967296) = _
    have h3 : Int.emod (scl x) 4294967296 = scl x % 4294967296 := rfl
    rw [h3]
    by_cases q : (2147483648 : Int) ≤ scl x % 4294967296
    · rw [decide_eq_true q, Bool.true_and, cnd_true, if_pos q]
    · rw [decide_eq_false q, Bool.true_and, cnd_false, if_neg q]
  have e2 : (!decide (scl x = wrapF .i32 (scl x))) = (decide (scl x < -2147483648) || decide (2147483647 < scl x)) := by
    rw [hw]
    by_cases q : scl x < -2147483648 ∨ 2147483647 < scl x
    · rw [decide_eq_false (by split <;> omega)]
      rcases q with q | q <;> simp [q]
    · rw [decide_eq_true (by split <;> omega), decide_eq_false (by omega), decide_eq_false (by omega)]; rfl
  unfold odd2
  rw [e1, e2]
theorem any_take {α : Type} {p : α → Bool} {l : List α} {i : Nat} {x : α} (h : (l.take i).any p = false) (hx : l[i]? = some x) (hp : p x = false) : (l.take (i + 1)).any p = false := by
  rw [List.take_add_one, hx, List.any_append, h]
  simp [hp]
theorem any_at {α : Type} {p : α → Bool} {l : List α} {i : Nat} {x : α} (hx : l[i]? = some x) (hp : p x = true) : l.any p = true :=
  List.any_eq_true.2 ⟨x, List.mem_of_getElem? hx, hp⟩
set_option maxHeartbeats 4000000 in
theorem rwrite2_ev (tag cur : Int) (l : List Item) (s : Value) (h : Heap) (hs : SL itemE 3 h s l) (hl : l.length < 800000) :
    WPo (EF Try.prog O0 14 [.int .i64 2, .int .i64 tag, formV cur s] h) fun q => Ext h q.2 ∧ ∃ u, q.1 = .tuple ⟨[u, .int .i64 (if cgood tag cur l then (if can2 cur l then 0 else 7) else 1)]⟩ ∧ SL byteE 1 q.2 u (if cgood tag cur l then (if can2 cur l then sealN (encV2 tag cur l) else []) else []) := by
  have hG := rgood_ev cur l s (h.push (.cells [.int .i64 cur, s] 0)) (hs.ext ((Ext.refl h).push _)) (by omega)
  rw [EF_body (O := O0) (by kernel_rfl) Try.func14 rfl (rs := [.tmp 6, .tmp 7]) rfl (bad := [19, 23]) (by kernel_rfl) _ _ (m := 127) rfl]
  obtain ⟨a, c, hv⟩ := hs.val
  subst hv
  unfold formV at hG ⊢
  simp (maxSteps := 1000000) (disch := first | decide | omega | (simp only [go_sem]; first | done | omega)) only [go_sem, Int.reduceToNat, Nat.reduceMul, Nat.reduceAdd, Nat.reduceSub, ↓EU_region, ↓EU_draw]
  ((repeat refine WPo_ob ?_); (first | refine WPo_cond (fun b1 => ?_) (fun b1 => ?_) | refine WPo_gard (fun b1 => ?_) (fun b1 => ?_) | refine WPo_gardT (fun b1 => ?_) (fun b1 => ?_)) <;> (try simp only [Bool.not_eq_true', Bool.not_eq_false'] at b1))
  · have b1' := b1
    simp only [decide_eq_false_iff_not] at b1'
    simp (maxSteps := 1000000) (disch := first | decide | omega | (simp only [go_sem]; first | done | omega)) only [go_sem, Int.reduceToNat, Nat.reduceMul, Nat.reduceAdd, Nat.reduceSub, ↓EU_region, ↓EU_draw, b1]
    ((repeat refine WPo_ob ?_); (first | refine WPo_cond (fun b2 => ?_) (fun b2 => ?_) | refine WPo_gard (fun b2 => ?_) (fun b2 => ?_) | refine WPo_gardT (fun b2 => ?_) (fun b2 => ?_)) <;> (try simp only [Bool.not_eq_true', Bool.not_eq_false'] at b2))
    · have b2' := b2
      simp only [decide_eq_false_iff_not] at b2'
      simp (maxSteps := 1000000) (disch := first | decide | omega | (simp only [go_sem]; first | done | omega)) only [go_sem, Int.reduceToNat, Nat.reduceMul, Nat.reduceAdd, Nat.reduceSub, ↓EU_region, ↓EU_draw, b1, b2]
      repeat refine WPo_ob ?_
      refine hG.bind fun h1 x1 => ?_
      have hx1 := ((Ext.refl h).push (.cells [.int .i64 cur, .slice a l.length c] 0)).trans x1
      have hF1 : h1.get h.next = .cells [.int .i64 cur, .slice a l.length c] 0 := by rw [x1.old _ (by rw [next_push]; omega)]; exact get_push_new _ _
      have hcg : cgood tag cur l = goodF cur l := by
        unfold cgood
        rw [decide_eq_true (by omega : 0 ≤ tag), decide_eq_true (by omega : tag ≤ 2)]; rfl
      cases hg : cgood tag cur l with
      | false =>
        rw [hcg] at hg
        simp only [Bool.false_eq_true, if_false, if_true]
        simp (maxSteps := 1000000) (disch := first | decide | omega | (simp only [go_sem]; first | done | omega)) only [go_sem, Int.reduceToNat, Nat.reduceMul, Nat.reduceAdd, Nat.reduceSub, ↓EU_region, ↓EU_draw, hg]
        exact ⟨hx1, _, rfl, SL.nil⟩
      | true =>
        have hgf : goodF cur l = true := by rw [← hcg]; exact hg
        obtain ⟨f1, f2, f3, f4⟩ := good_facts hgf
        have hn1 := x1.le
        rw [next_push] at hn1
        simp only [Bool.false_eq_true, if_false, if_true]
        have hw3 : wrapF .u8 2 = 2 := rfl
        have hwt : wrapF .u8 tag = ((byteI tag 0).toNat : Int) := conv_i8 tag
        have hwl : wrapF .u8 (l.length : Int) = ((byteI (l.length : Int) 0).toNat : Int) := conv_i8 _
        simp (maxSteps := 1000000) (disch := first | decide | omega | (simp only [go_sem]; first | done | omega)) only [go_sem, Int.reduceToNat, Nat.reduceMul, Nat.reduceAdd, Nat.reduceSub, ↓EU_region, ↓EU_draw, dec_t, dec_f, hgf, hF1, hw3, hwt]
        by_cases hcu : cur < 65535
        · have hcd : decide (65534 < cur) = false := decide_eq_false (by omega)
          have hcn : can2 cur l = !l.any odd2 := by unfold can2; rw [decide_eq_true hcu]; rfl
          rw [hcn]
          simp (maxSteps := 1000000) (disch := first | decide | omega | (simp only [go_sem]; first | done | omega)) only [go_sem, Int.reduceToNat, Nat.reduceMul, Nat.reduceAdd, Nat.reduceSub, ↓EU_region, ↓EU_draw, dec_t, dec_f, hcd, hF1]
          repeat refine WPo_ob ?_
          refine (big_ev [83, 72, 2, byteI tag 0] _ (cur + 1) 2 _ (OW.lit byteE_len h1 [83, 72, 2, byteI tag 0]) (by decide) (by simp)).mono ?_
          rintro ⟨v2, h2⟩ ⟨ho2, gr2⟩
          simp only at ho2 gr2
          obtain ⟨x2, hf2⟩ := gr2.new
          have hF2 : h2.get h.next = .cells [.int .i64 cur, .slice a l.length c] 0 := by rw [x2.old _ (by omega)]; exact hF1
          simp (maxSteps := 1000000) (disch := first | decide | omega | (simp only [go_sem]; first | done | omega)) only [go_sem, Int.reduceToNat, Nat.reduceMul, Nat.reduceAdd, Nat.reduceSub, ↓EU_region, ↓EU_draw, hF2, hwl]
          repeat refine WPo_ob ?_
          refine append_own (h0 := h1) (l := [83, 72, 2, byteI tag 0] ++ numB (cur + 1) 2) (l' := [byteI (l.length : Int) 0]) fc_ap_22_22 (fun _ => rfl) (by decide) byteE_scal (x2.push _) (ho2.ext ((Ext.refl h2).push _)) hf2 (OW.lit byteE_len h2 [byteI (l.length : Int) 0]).sl (by simp [numB_len]) (by simp [numB_len]) fun v3 h3 ho3 hf3 x3 _ _ => ?_
          simp (maxSteps := 1000000) (disch := first | decide | omega | (simp only [go_sem]; first | done | omega)) only [go_sem, Int.reduceToNat, Nat.reduceMul, Nat.reduceAdd, Nat.reduceSub, ↓EU_region, ↓EU_draw]
          repeat refine WPo_ob ?_
          have hE : encV2 tag cur l = preV2 tag cur l.length ++ l.flatMap encIt2 := rfl
          rw [show [83, 72, 2, byteI tag 0] ++ numB (cur + 1) 2 ++ [byteI (l.length : Int) 0] = preV2 tag cur l.length from rfl] at ho3
          rw [hE]
          have hpl := preV2_len tag cur l.length
          generalize preV2 tag cur l.length = pre at *
          refine (LP_rule (fun m st => ∃ (i : Nat) (tm : Fr) (h' : Heap) (v : Value), st = ⟨tm, h', []⟩ ∧ m = l.length - i ∧ i ≤ l.length ∧ Fr.get tm 8 = v ∧ Fr.get tm 0 = .int .i64 2 ∧ Fr.get tm 5 = ptr h.next 0 ∧ Fr.get tm 9 = .int .i64 i ∧ OW byteE 1 h' v (pre ++ (l.take i).flatMap encIt2) ∧ Fresh h1.next v ∧ Ext h1 h' ∧ (l.take i).any odd2 = false)
            (fun q => ∃ tm h', q.2 = ⟨tm, h', []⟩ ∧ Ext h1 h' ∧ ((q.1 = .exit 1 ∧ l.any odd2 = false ∧ ∃ v, Fr.get tm 8 = v ∧ OW byteE 1 h' v (pre ++ l.flatMap encIt2) ∧ Fresh h1.next v) ∨ (q.1 = .ret ∧ l.any odd2 = true ∧ Fr.get tm 6 = .slice none 0 1 ∧ Fr.get tm 7 = .int .i64 7))) ?_ l.length _ _ ?_ ?_).mono ?_
          · rintro m _ ⟨i, tm, h', v, rfl, rfl, hi, g8, g0, g5, g9, ho', hf', x', han⟩
            have hF' : h'.get h.next = .cells [.int .i64 cur, .slice a l.length c] 0 := by rw [x'.old _ (by omega)]; exact hF1
            simp (maxSteps := 1000000) (disch := first | decide | omega | (simp only [go_sem]; first | done | omega)) only [go_sem, Int.reduceToNat, Nat.reduceMul, Nat.reduceAdd, Nat.reduceSub, ↓EU_region, ↓EU_draw, g8, g0, g5, g9, hF']
            ((repeat refine WPo_ob ?_); (first | refine WPo_cond (fun b3 => ?_) (fun b3 => ?_) | refine WPo_gard (fun b3 => ?_) (fun b3 => ?_) | refine WPo_gardT (fun b3 => ?_) (fun b3 => ?_)) <;> (try simp only [Bool.not_eq_true', Bool.not_eq_false'] at b3))
            · have b3' := b3
              simp only [decide_eq_true_eq] at b3'
              have hi' : i < l.length := by omega
              obtain ⟨x, hx⟩ : ∃ x, l[i]? = some x := ⟨_, List.getElem?_eq_getElem hi'⟩
              obtain ⟨b, o, c', e, hb', hrd, hr⟩ := (hs.ext hx1).at hx rfl
              cases e
              rw [← x'.old b hb'] at hrd hr
              have hil : (l.take i).length = i := by rw [List.length_take]; omega
              have hfl := flatMap_len2 (l.take i)
              rw [hil] at hfl
              have him := f4 x (List.mem_of_getElem? hx)
              have fx := imay_facts him
              have hq0 := Int.tdiv_mul_add_tmod x.lag 232792560
              have hq1 := Int.tmod_lt_of_pos x.lag (show (0 : Int) < 232792560 by decide)
              have hq2 := Int.lt_tmod_of_pos x.lag (show (0 : Int) < 232792560 by decide)
              have hq := bin_quo Try.prog 2 (.tmp 83) (.const (.int .i64 232792560)) .i64 x.lag 232792560 (by decide)
              rw [wrap64 (by omega), show x.lag.tdiv 232792560 = scl x from rfl] at hq
              have hrm := bin_rem0 Try.prog 2 (.tmp 99) (.const (.int .i64 232792560)) .i64 x.lag 232792560 (by decide)
              have hsq : x.lag.tdiv 232792560 = scl x := rfl
              rw [hsq] at hq0
              simp (maxSteps := 1000000) (disch := first | decide | omega | (simp only [go_sem]; first | done | omega)) only [go_sem, Int.reduceToNat, Nat.reduceMul, Nat.reduceAdd, Nat.reduceSub, g8, g0, g5, g9, hF', hrd]
              (first | rw [EU_region] | rw [EU_draw _ _ rfl]); simp (maxSteps := 1000000) (disch := first | decide | omega | (simp only [go_sem]; first | done | omega)) only [go_sem, Int.reduceToNat, Nat.reduceMul, Nat.reduceAdd, Nat.reduceSub, g8, g0, g5, g9, hF', hrd]
              (first | rw [EU_region] | rw [EU_draw _ _ rfl]); simp (maxSteps := 1000000) (disch := first | decide | omega | (simp only [go_sem]; first | done | omega)) only [go_sem, Int.reduceToNat, Nat.reduceMul, Nat.reduceAdd, Nat.reduceSub, g8, g0, g5, g9, hF', hrd, dec_t, dec_f]
              have hpo := odd2_parts him
              cases hd1 : decide (65535 < x.id) with
              | true =>
                rw [hd1] at hpo
                simp (maxSteps := 1000000) (disch := first | decide | omega | (simp only [go_sem]; first | done | omega)) only [go_sem, Int.reduceToNat, Nat.reduceMul, Nat.reduceAdd, Nat.reduceSub, ↓EU_region, ↓EU_draw, dec_t, dec_f, g8, g0, g5, g9, hF', hrd, hq, hrm, hd1]
                refine ⟨_, h'.push (.cells (itemE x) 0), rfl, x'.push _, .inr ⟨trivial, any_at hx (hpo), by simp (maxSteps := 1000000) (disch := first | decide | omega | (simp only [go_sem]; first | done | omega)) only [go_sem, Int.reduceToNat, Nat.reduceMul, Nat.reduceAdd, Nat.reduceSub, ↓EU_region, ↓EU_draw], by simp (maxSteps := 1000000) (disch := first | decide | omega | (simp only [go_sem]; first | done | omega)) only [go_sem, Int.reduceToNat, Nat.reduceMul, Nat.reduceAdd, Nat.reduceSub, ↓EU_region, ↓EU_draw]⟩⟩
              | false =>
                cases hd3 : decide (x.lag.tmod 232792560 = 0) with
                | false =>
                  rw [hd1, hd3] at hpo
                  simp (maxSteps := 1000000) (disch := first | decide | omega | (simp only [go_sem]; first | done | omega)) only [go_sem, Int.reduceToNat, Nat.reduceMul, Nat.reduceAdd, Nat.reduceSub, ↓EU_region, ↓EU_draw, dec_t, dec_f, g8, g0, g5, g9, hF', hrd, hq, hrm, hd1, hd3]
                  refine ⟨_, h'.push (.cells (itemE x) 0), rfl, x'.push _, .inr ⟨trivial, any_at hx (hpo), by simp (maxSteps := 1000000) (disch := first | decide | omega | (simp only [go_sem]; first | done | omega)) only [go_sem, Int.reduceToNat, Nat.reduceMul, Nat.reduceAdd, Nat.reduceSub, ↓EU_region, ↓EU_draw], by simp (maxSteps := 1000000) (disch := first | decide | omega | (simp only [go_sem]; first | done | omega)) only [go_sem, Int.reduceToNat, Nat.reduceMul, Nat.reduceAdd, Nat.reduceSub, ↓EU_region, ↓EU_draw]⟩⟩
                | true =>
                  have hd4 : decide (scl x < -2147483648) = false := decide_eq_false (by omega)
                  have hd5 : decide (2147483647 < scl x) = false := decide_eq_false (by omega)
                  rw [hd1, hd3, hd4, hd5] at hpo
                  have hpf : odd2 x = false := hpo
                  (first | rw [EU_region] | rw [EU_draw _ _ rfl]); simp (maxSteps := 1000000) (disch := first | decide | omega | (simp only [go_sem]; first | done | omega)) only [go_sem, Int.reduceToNat, Nat.reduceMul, Nat.reduceAdd, Nat.reduceSub, g8, g0, g5, g9, hF', hrd, hq, dec_t, dec_f]
                  (first | rw [EU_region] | rw [EU_draw _ _ rfl]); simp (maxSteps := 1000000) (disch := first | decide | omega | (simp only [go_sem]; first | done | omega)) only [go_sem, Int.reduceToNat, Nat.reduceMul, Nat.reduceAdd, Nat.reduceSub, g8, g0, g5, g9, hF', hrd, hq, hrm, hd1, hd3, hd4, hd5, dec_t, dec_f]
                  rw [EU_bad _ _ rfl, EC_tab (tab := [(false, none), (false, none), (false, none), (true, none), (false, none), (false, (some (0, 1))), (false, none), (true, none), (true, none), (false, none)]) (by kernel_rfl)]
                  have hwx : wrapF .u8 x.w = ((byteI x.w 0).toNat : Int) := conv_i8 _
                  simp (maxSteps := 1000000) (disch := first | decide | omega | (simp only [go_sem]; first | done | omega)) only [go_sem, Int.reduceToNat, Nat.reduceMul, Nat.reduceAdd, Nat.reduceSub, ↓EU_region, ↓EU_draw, g8, g0, g5, g9, hF', hrd]
                  repeat refine WPo_ob ?_
                  refine (big_ev _ v x.id 2 _ (ho'.ext ((Ext.refl h').push _)) (by decide) (by rw [List.length_append]; omega)).mono ?_
                  rintro ⟨v4, h4⟩ ⟨ho4, gr4⟩
                  simp only at ho4 gr4
                  have hv' : ¬ blkOf v h'.next := fun q => by have := ho'.lt q; omega
                  have hv4 : ¬ blkOf v4 h'.next := fun q => by
                    rcases gr4.src _ q with q | q
                    · exact hv' q
                    · rw [next_push] at q; omega
                  have hc4 : h4.get h'.next = .cells (itemE x) 0 := by rw [gr4.old _ (by rw [next_push]; omega) hv']; exact get_push_new _ _
                  have hn4 := gr4.le
                  rw [next_push] at hn4
                  simp (maxSteps := 1000000) (disch := first | decide | omega | (simp only [go_sem]; first | done | omega)) only [go_sem, Int.reduceToNat, Nat.reduceMul, Nat.reduceAdd, Nat.reduceSub, ↓EU_region, ↓EU_draw, hc4, hwx]
                  repeat refine WPo_ob ?_
                  refine append_gr (l := pre ++ (l.take i).flatMap encIt2 ++ numB x.id 2) (l' := [byteI x.w 0]) fc_ap_22_22 (fun _ => rfl) (by decide) byteE_scal (ho4.ext ((Ext.refl h4).push _)) (OW.lit byteE_len h4 [byteI x.w 0]).sl (by simp only [List.length_append, numB_len, List.length_cons, List.length_nil]; omega) (by simp only [List.length_append, numB_len, List.length_cons, List.length_nil]; omega) fun v5 h5 ho5 gr5 => ?_
                  have hc5 : h5.get h'.next = .cells (itemE x) 0 := by rw [gr5.old _ (by rw [next_push]; omega) hv4, get_push_old _ (by omega)]; exact hc4
                  simp (maxSteps := 1000000) (disch := first | decide | omega | (simp only [go_sem]; first | done | omega)) only [go_sem, Int.reduceToNat, Nat.reduceMul, Nat.reduceAdd, Nat.reduceSub, ↓EU_region, ↓EU_draw, dec_t, dec_f, hc4, hc5, g0, g9, hd1, hd3, hd4, hd5]
                  repeat refine WPo_ob ?_
                  have hnx : pre ++ (l.take (i + 1)).flatMap encIt2 = pre ++ (l.take i).flatMap encIt2 ++ numB x.id 2 ++ [byteI x.w 0] ++ numB (scl x) 4 := by
                    rw [List.take_add_one, hx]
                    simp [encIt2]
                  refine (big_ev _ v5 (scl x) 4 _ ho5 (by decide) (by simp only [List.length_append, numB_len, List.length_cons, List.length_nil]; omega)).mono ?_
                  rintro ⟨v6, h6⟩ ⟨ho6, gr6⟩
                  simp only at ho6 gr6
                  rw [← hnx] at ho6
                  have gr : Gr v (h'.push (.cells (itemE x) 0)) v6 h6 := (((gr4.push _).trans gr5)).trans gr6
                  simp (maxSteps := 1000000) (disch := first | decide | omega | (simp only [go_sem]; first | done | omega)) only [go_sem, Int.reduceToNat, Nat.reduceMul, Nat.reduceAdd, Nat.reduceSub, ↓EU_region, ↓EU_draw, dec_t, dec_f, hc4, hc5, g0, g9]
                  exact ⟨_, by omega, i + 1, _, h6, v6, rfl, rfl, by omega, by simp (maxSteps := 1000000) (disch := first | decide | omega | (simp only [go_sem]; first | done | omega)) only [go_sem, Int.reduceToNat, Nat.reduceMul, Nat.reduceAdd, Nat.reduceSub, ↓EU_region, ↓EU_draw], by simp (maxSteps := 1000000) (disch := first | decide | omega | (simp only [go_sem]; first | done | omega)) only [go_sem, Int.reduceToNat, Nat.reduceMul, Nat.reduceAdd, Nat.reduceSub, ↓EU_region, ↓EU_draw, g0], by simp (maxSteps := 1000000) (disch := first | decide | omega | (simp only [go_sem]; first | done | omega)) only [go_sem, Int.reduceToNat, Nat.reduceMul, Nat.reduceAdd, Nat.reduceSub, ↓EU_region, ↓EU_draw, g5], by simp (maxSteps := 1000000) (disch := first | decide | omega | (simp only [go_sem]; first | done | omega)) only [go_sem, Int.reduceToNat, Nat.reduceMul, Nat.reduceAdd, Nat.reduceSub, ↓EU_region, ↓EU_draw], ho6, gr.fresh hf' (by have := x'.le; rw [next_push]; omega), gr.ext0 (x'.push _) hf', any_take han hx hpf⟩
            · simp only [decide_eq_false_iff_not] at b3
              have : i = l.length := by omega
              subst this
              rw [List.take_length] at ho' han
              simp (maxSteps := 1000000) (disch := first | decide | omega | (simp only [go_sem]; first | done | omega)) only [go_sem, Int.reduceToNat, Nat.reduceMul, Nat.reduceAdd, Nat.reduceSub, ↓EU_region, ↓EU_draw]
              exact ⟨_, _, rfl, x', .inl ⟨trivial, han, v, by simp (maxSteps := 1000000) (disch := first | decide | omega | (simp only [go_sem]; first | done | omega)) only [go_sem, Int.reduceToNat, Nat.reduceMul, Nat.reduceAdd, Nat.reduceSub, ↓EU_region, ↓EU_draw, g8], ho', hf'⟩⟩
          · refine ⟨0, _, h3, v3, rfl, rfl, by omega, by simp (maxSteps := 1000000) (disch := first | decide | omega | (simp only [go_sem]; first | done | omega)) only [go_sem, Int.reduceToNat, Nat.reduceMul, Nat.reduceAdd, Nat.reduceSub, ↓EU_region, ↓EU_draw], by simp (maxSteps := 1000000) (disch := first | decide | omega | (simp only [go_sem]; first | done | omega)) only [go_sem, Int.reduceToNat, Nat.reduceMul, Nat.reduceAdd, Nat.reduceSub, ↓EU_region, ↓EU_draw], by simp (maxSteps := 1000000) (disch := first | decide | omega | (simp only [go_sem]; first | done | omega)) only [go_sem, Int.reduceToNat, Nat.reduceMul, Nat.reduceAdd, Nat.reduceSub, ↓EU_region, ↓EU_draw], by simp (maxSteps := 1000000) (disch := first | decide | omega | (simp only [go_sem]; first | done | omega)) only [go_sem, Int.reduceToNat, Nat.reduceMul, Nat.reduceAdd, Nat.reduceSub, ↓EU_region, ↓EU_draw]; rfl, ?_, hf3, x3, rfl⟩
            rw [List.take_zero, List.flatMap_nil, List.append_nil]; exact ho3
          · omega
          · rintro ⟨q, _⟩ ⟨tm, h', rfl, x', ⟨rfl, han, v, g8, ho', hf'⟩ | ⟨rfl, han, g6, g7⟩⟩
            · simp only [han, Bool.not_false, Bool.not_true, if_true, Bool.false_eq_true, if_false]
              simp (maxSteps := 1000000) (disch := first | decide | omega | (simp only [go_sem]; first | done | omega)) only [go_sem, Int.reduceToNat, Nat.reduceMul, Nat.reduceAdd, Nat.reduceSub, ↓EU_region, ↓EU_draw, g8]
              repeat refine WPo_ob ?_
              refine (rseal_ev _ v h' ho'.sl (by rw [List.length_append, flatMap_len2]; omega)).mono ?_
              rintro ⟨u, h''⟩ ⟨hou, hfu, xu⟩
              simp only at hou hfu xu
              simp (maxSteps := 1000000) (disch := first | decide | omega | (simp only [go_sem]; first | done | omega)) only [go_sem, Int.reduceToNat, Nat.reduceMul, Nat.reduceAdd, Nat.reduceSub, ↓EU_region, ↓EU_draw]
              exact ⟨hx1.trans (x'.trans xu), u, rfl, hou.sl⟩
            · simp only [han, Bool.not_false, Bool.not_true, if_true, Bool.false_eq_true, if_false]
              simp (maxSteps := 1000000) (disch := first | decide | omega | (simp only [go_sem]; first | done | omega)) only [go_sem, Int.reduceToNat, Nat.reduceMul, Nat.reduceAdd, Nat.reduceSub, ↓EU_region, ↓EU_draw, g6, g7]
              exact ⟨hx1.trans x', _, rfl, SL.nil⟩
        · have hcd : decide (65534 < cur) = true := decide_eq_true (by omega)
          have hcn : can2 cur l = false := by unfold can2; rw [decide_eq_false hcu]; rfl
          rw [hcn]
          simp only [Bool.false_eq_true, if_false]
          simp (maxSteps := 1000000) (disch := first | decide | omega | (simp only [go_sem]; first | done | omega)) only [go_sem, Int.reduceToNat, Nat.reduceMul, Nat.reduceAdd, Nat.reduceSub, ↓EU_region, ↓EU_draw, dec_t, dec_f, hcd, hF1]
          exact ⟨hx1.push _, _, rfl, SL.nil⟩
    · have b2' := b2
      simp only [decide_eq_true_eq] at b2'
      have hg : cgood tag cur l = false := by unfold cgood; rw [decide_eq_false (by omega : ¬ tag ≤ 2)]; simp
      rw [hg]
      simp only [Bool.false_eq_true, if_false]
      simp (maxSteps := 1000000) (disch := first | decide | omega | (simp only [go_sem]; first | done | omega)) only [go_sem, Int.reduceToNat, Nat.reduceMul, Nat.reduceAdd, Nat.reduceSub, ↓EU_region, ↓EU_draw, b2]
      exact ⟨(Ext.refl h).push _, _, rfl, SL.nil⟩
  · have b1' := b1
    simp only [decide_eq_true_eq] at b1'
    have hg : cgood tag cur l = false := by unfold cgood; rw [decide_eq_false (by omega : ¬ 0 ≤ tag)]; simp
    rw [hg]
    simp only [Bool.false_eq_true, if_false]
    simp (maxSteps := 1000000) (disch := first | decide | omega | (simp only [go_sem]; first | done | omega)) only [go_sem, Int.reduceToNat, Nat.reduceMul, Nat.reduceAdd, Nat.reduceSub, ↓EU_region, ↓EU_draw, b1]
    exact ⟨(Ext.refl h).push _, _, rfl, SL.nil⟩
end Go.Proofs.Ytlandojofjkeaaa.EV
