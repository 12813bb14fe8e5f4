/- Contracts: elder's items, Up, Read. No condition. -/
import Derived.Test.YtddgcakiceodgaaGreatRef5
namespace Go.Proofs.YtddgcakiceodgaaGreat.EV
open Go Go.Proofs
set_option linter.unusedVariables false
set_option linter.unusedSimpArgs false
set_option maxRecDepth 100000
set_option pp.deepTerms false
set_option pp.deepTerms.threshold 20
noncomputable def itemsV (v : Int) (q : List UInt8) : Option (List Item) := if q.length < 1 ∨ q.length ≠ 1 + szV v * bN q 0 then none else some (decVs v (bN q 0) (q.drop 1))
theorem items1_ev (q : List UInt8) (s : Value) (h : Heap) (hs : SL byteE 1 h s q) (hl : q.length < 800000) :
    WPo (EF Tryz.prog O0 93 [s, .bool false] h) fun r => match itemsV 1 q with
      | none => r.1 = .tuple ⟨[.slice none 0 1, .bool false]⟩ ∧ Ext h r.2
      | some l => ∃ v, r.1 = .tuple ⟨[v, .bool true]⟩ ∧ OW itemE 3 r.2 v l ∧ Fresh h.next v ∧ Ext h r.2 := by
  unfold itemsV
  rw [show szV 1 = 3 from rfl]
  rw [EF_body (O := O0) (by kernel_rfl) Tryz.func93 rfl (rs := [.tmp 4, .tmp 5]) rfl (bad := []) (by kernel_rfl) _ _ (m := 59) rfl]
  obtain ⟨a0, c0, hv0⟩ := hs.val
  subst hv0
  simp (maxSteps := 1000000) (disch := first | decide | omega | (simp only [go_sem]; first | done | omega)) only [go_sem, Int.reduceToNat, Nat.reduceMul, Nat.reduceAdd, Nat.reduceSub, ↓EU_region, ↓EU_draw]
  ((repeat refine WPo_ob ?_); (first | refine WPo_cond (fun b1 => ?_) (fun b1 => ?_) | refine WPo_gard (fun b1 => ?_) (fun b1 => ?_) | refine WPo_gardT (fun b1 => ?_) (fun b1 => ?_)) <;> (try simp only [Bool.not_eq_true', Bool.not_eq_false'] at b1))
  · have b1' := b1
    simp only [decide_eq_false_iff_not] at b1'
    obtain ⟨B, o, c, e, hB, r0⟩ := rd_byte hs (i := 0) (by omega)
    cases e
    rw [Nat.add_zero] at r0
    have hw0 : wrapF .i64 (bN q 0 : Int) = bN q 0 := wrap64 (by have := bN_lt q 0; omega)
    have hlt0 := bN_lt q 0
    have hwm0 : wrapF .i64 (3 * (bN q 0 : Int)) = 3 * (bN q 0 : Int) := wrap64 (by omega)
    simp (maxSteps := 1000000) (disch := first | decide | omega | (simp only [go_sem]; first | done | omega)) only [go_sem, Int.reduceToNat, Nat.reduceMul, Nat.reduceAdd, Nat.reduceSub, ↓EU_region, ↓EU_draw, b1, r0, hw0, hwm0]
    ((repeat refine WPo_ob ?_); (first | refine WPo_cond (fun b2 => ?_) (fun b2 => ?_) | refine WPo_gard (fun b2 => ?_) (fun b2 => ?_) | refine WPo_gardT (fun b2 => ?_) (fun b2 => ?_)) <;> (try simp only [Bool.not_eq_true', Bool.not_eq_false'] at b2))
    · have b2' := b2
      simp only [decide_eq_false_iff_not] at b2'
      rw [if_pos (.inr (by omega))]
      simp (maxSteps := 1000000) (disch := first | decide | omega | (simp only [go_sem]; first | done | omega)) only [go_sem, Int.reduceToNat, Nat.reduceMul, Nat.reduceAdd, Nat.reduceSub, ↓EU_region, ↓EU_draw, b2]
      exact ⟨trivial, Ext.refl _⟩
    · have b2' := b2
      simp only [decide_eq_true_eq] at b2'
      rw [if_neg (by omega)]
      obtain ⟨u1, hu1, su1, bu1⟩ := cut_from fc_sl_37 hs .i64 1 1 rfl (by omega)
      generalize hrest : q.drop 1 = rest at su1
      have hrl : rest.length = 3 * bN q 0 := by rw [← hrest, List.length_drop]; omega
      generalize bN q 0 = n at *
      simp (maxSteps := 1000000) (disch := first | decide | omega | (simp only [go_sem]; first | done | omega)) only [go_sem, Int.reduceToNat, Nat.reduceMul, Nat.reduceAdd, Nat.reduceSub, ↓EU_region, ↓EU_draw, b2, hu1]
      repeat refine WPo_ob ?_
      refine (LP_rule (fun m st => ∃ (i : Nat) (tm : Fr) (h' : Heap) (u v : Value), st = ⟨tm, h', []⟩ ∧ m = n - i ∧ i ≤ n ∧ Fr.get tm 0 = u ∧ Fr.get tm 1 = .bool false ∧ Fr.get tm 7 = v ∧ SL byteE 1 h' u (rest.drop (3 * i)) ∧ (∀ i, blkOf u i → i < h.next) ∧ OW itemE 3 h' v (decVs 1 i rest) ∧ Fresh h.next v ∧ Ext h h')
        (fun q => ∃ tm h' v, q.2 = ⟨tm, h', []⟩ ∧ q.1 = .exit 0 ∧ Fr.get tm 7 = v ∧ OW itemE 3 h' v (decVs 1 n rest) ∧ Fresh h.next v ∧ Ext h h') ?_ n _ _ ?_ ?_).mono ?_
      · rintro m _ ⟨i, tm, h', u, v, rfl, rfl, hi, k0, k1, k7, sui, hui, hov, hfv, x'⟩
        obtain ⟨aq, kq, rfl⟩ := sui.val
        have hql : (rest.drop (3 * i)).length = 3 * n - 3 * i := by rw [List.length_drop, hrl]
        simp (maxSteps := 1000000) (disch := first | decide | omega | (simp only [go_sem]; first | done | omega)) only [go_sem, Int.reduceToNat, Nat.reduceMul, Nat.reduceAdd, Nat.reduceSub, ↓EU_region, ↓EU_draw, k0, k1, k7]
        ((repeat refine WPo_ob ?_); (first | refine WPo_cond (fun b3 => ?_) (fun b3 => ?_) | refine WPo_gard (fun b3 => ?_) (fun b3 => ?_) | refine WPo_gardT (fun b3 => ?_) (fun b3 => ?_)) <;> (try simp only [Bool.not_eq_true', Bool.not_eq_false'] at b3))
        · have b3' := b3
          simp only [decide_eq_true_eq] at b3'
          have hin : i < n := by omega
          simp (maxSteps := 1000000) (disch := first | decide | omega | (simp only [go_sem]; first | done | omega)) only [go_sem, Int.reduceToNat, Nat.reduceMul, Nat.reduceAdd, Nat.reduceSub, ↓EU_region, ↓EU_draw, k0, k1, k7]
          repeat refine WPo_ob ?_
          refine (read_ev _ _ 2 h' sui (by omega) (by decide) (by omega)).mono ?_
          rintro _ ⟨w1, rfl, sw1, bw1⟩
          simp (maxSteps := 1000000) (disch := first | decide | omega | (simp only [go_sem]; first | done | omega)) only [go_sem, Int.reduceToNat, Nat.reduceMul, Nat.reduceAdd, Nat.reduceSub, ↓EU_region, ↓EU_draw, k1, k7]
          repeat refine WPo_ob ?_
          refine (read_ev _ _ 1 h' sw1 (by rw [List.length_drop]; omega) (by decide) (by rw [List.length_drop]; omega)).mono ?_
          rintro _ ⟨w2, rfl, sw2, bw2⟩
          simp (maxSteps := 1000000) (disch := first | decide | omega | (simp only [go_sem]; first | done | omega)) only [go_sem, Int.reduceToNat, Nat.reduceMul, Nat.reduceAdd, Nat.reduceSub, ↓EU_region, ↓EU_draw, k1, k7]
          skip
          have hit : decIt 1 (rest.drop (3 * i)) = ⟨readN ((rest.drop (3 * i)).take 2), readN (((rest.drop (3 * i)).drop 2).take 1), (wrapF .i32 0 * 232792560)⟩ := by
            unfold decIt
            rw [readN_one]
            rfl
          have hsn := decVs_snoc 1 i rest
          rw [show szV 1 = 3 from rfl, hit] at hsn
          have hsw : SL byteE 1 h' w2 (rest.drop (3 * (i + 1))) := by
            have := sw2
            simp only [List.drop_drop] at this
            rw [show 3 * (i + 1) = 3 * i + 3 by omega]
            exact this
          repeat refine WPo_ob ?_
          have hlit := OW.lit itemE_len h' [(⟨readN ((rest.drop (3 * i)).take 2), readN (((rest.drop (3 * i)).drop 2).take 1), (wrapF .i32 0 * 232792560)⟩ : Item)]
          rw [List.flatMap_cons, List.flatMap_nil, List.append_nil] at hlit
          unfold itemE at hlit
          refine append_gr (l := decVs 1 i rest) (l' := [(⟨readN ((rest.drop (3 * i)).take 2), readN (((rest.drop (3 * i)).drop 2).take 1), (wrapF .i32 0 * 232792560)⟩ : Item)]) fc_ap_22_22 itemE_len (by decide) itemE_scal (hov.ext ((Ext.refl h').push _)) hlit.sl (by rw [decVs_len]; simp only [List.length_cons, List.length_nil]; omega) (by rw [decVs_len]; simp only [List.length_cons, List.length_nil]; omega) fun v' h'' hov' gr => ?_
          rw [← hsn] at hov'
          have hm1 : ∀ j, blkOf v j → h.next ≤ j := fun j hj => hfv j hj
          have hm2 : Mod (fun j => h.next ≤ j) h' h'' := ((Mod.refl _ h').push _).trans (gr.mod.mono fun j _ hj => hm1 j hj)
          have hn' := x'.le
          simp (maxSteps := 1000000) (disch := first | decide | omega | (simp only [go_sem]; first | done | omega)) only [go_sem, Int.reduceToNat, Nat.reduceMul, Nat.reduceAdd, Nat.reduceSub, ↓EU_region, ↓EU_draw, k1]
          exact ⟨_, by omega, i + 1, _, h'', w2, v', rfl, rfl, by omega, by simp (maxSteps := 1000000) (disch := first | decide | omega | (simp only [go_sem]; first | done | omega)) only [go_sem, Int.reduceToNat, Nat.reduceMul, Nat.reduceAdd, Nat.reduceSub, ↓EU_region, ↓EU_draw], by simp (maxSteps := 1000000) (disch := first | decide | omega | (simp only [go_sem]; first | done | omega)) only [go_sem, Int.reduceToNat, Nat.reduceMul, Nat.reduceAdd, Nat.reduceSub, ↓EU_region, ↓EU_draw, k1], by simp (maxSteps := 1000000) (disch := first | decide | omega | (simp only [go_sem]; first | done | omega)) only [go_sem, Int.reduceToNat, Nat.reduceMul, Nat.reduceAdd, Nat.reduceSub, ↓EU_region, ↓EU_draw], hsw.modB hm2 (fun j hj => by have := hui j (bw1 j (bw2 j hj)); omega), fun j hj => hui j (bw1 j (bw2 j hj)), hov', gr.fresh hfv (by rw [next_push]; omega), gr.ext0 (x'.push _) hfv⟩
        · have b3' := b3
          simp only [decide_eq_false_iff_not] at b3'
          have : i = n := by omega
          subst this
          simp (maxSteps := 1000000) (disch := first | decide | omega | (simp only [go_sem]; first | done | omega)) only [go_sem, Int.reduceToNat, Nat.reduceMul, Nat.reduceAdd, Nat.reduceSub, ↓EU_region, ↓EU_draw]
          exact ⟨_, _, v, rfl, trivial, by simp (maxSteps := 1000000) (disch := first | decide | omega | (simp only [go_sem]; first | done | omega)) only [go_sem, Int.reduceToNat, Nat.reduceMul, Nat.reduceAdd, Nat.reduceSub, ↓EU_region, ↓EU_draw, k7], hov, hfv, x'⟩
      · exact ⟨0, _, _, u1, _, rfl, rfl, by omega, by simp (maxSteps := 1000000) (disch := first | decide | omega | (simp only [go_sem]; first | done | omega)) only [go_sem, Int.reduceToNat, Nat.reduceMul, Nat.reduceAdd, Nat.reduceSub, ↓EU_region, ↓EU_draw], by simp (maxSteps := 1000000) (disch := first | decide | omega | (simp only [go_sem]; first | done | omega)) only [go_sem, Int.reduceToNat, Nat.reduceMul, Nat.reduceAdd, Nat.reduceSub, ↓EU_region, ↓EU_draw], by simp (maxSteps := 1000000) (disch := first | decide | omega | (simp only [go_sem]; first | done | omega)) only [go_sem, Int.reduceToNat, Nat.reduceMul, Nat.reduceAdd, Nat.reduceSub, ↓EU_region, ↓EU_draw], su1, fun j hj => hs.lt (bu1 j hj), OW.nil, Fresh.nil _ _ _, Ext.refl _⟩
      · omega
      · rintro ⟨q, _⟩ ⟨tm, h', v, rfl, rfl, k7, hov, hfv, x'⟩
        simp (maxSteps := 1000000) (disch := first | decide | omega | (simp only [go_sem]; first | done | omega)) only [go_sem, Int.reduceToNat, Nat.reduceMul, Nat.reduceAdd, Nat.reduceSub, ↓EU_region, ↓EU_draw, k7]
        exact ⟨v, rfl, hov, hfv, x'⟩
  · have b1' := b1
    simp only [decide_eq_true_eq] at b1'
    rw [if_pos (.inl (by omega))]
    simp (maxSteps := 1000000) (disch := first | decide | omega | (simp only [go_sem]; first | done | omega)) only [go_sem, Int.reduceToNat, Nat.reduceMul, Nat.reduceAdd, Nat.reduceSub, ↓EU_region, ↓EU_draw, b1]
    exact ⟨trivial, Ext.refl _⟩
theorem items2_ev (q : List UInt8) (s : Value) (h : Heap) (hs : SL byteE 1 h s q) (hl : q.length < 800000) :
    WPo (EF Tryz.prog O0 93 [s, .bool true] h) fun r => match itemsV 2 q with
      | none => r.1 = .tuple ⟨[.slice none 0 1, .bool false]⟩ ∧ Ext h r.2
      | some l => ∃ v, r.1 = .tuple ⟨[v, .bool true]⟩ ∧ OW itemE 3 r.2 v l ∧ Fresh h.next v ∧ Ext h r.2 := by
  unfold itemsV
  rw [show szV 2 = 7 from rfl]
  rw [EF_body (O := O0) (by kernel_rfl) Tryz.func93 rfl (rs := [.tmp 4, .tmp 5]) rfl (bad := []) (by kernel_rfl) _ _ (m := 59) rfl]
  obtain ⟨a0, c0, hv0⟩ := hs.val
  subst hv0
  simp (maxSteps := 1000000) (disch := first | decide | omega | (simp only [go_sem]; first | done | omega)) only [go_sem, Int.reduceToNat, Nat.reduceMul, Nat.reduceAdd, Nat.reduceSub, ↓EU_region, ↓EU_draw]
  ((repeat refine WPo_ob ?_); (first | refine WPo_cond (fun b1 => ?_) (fun b1 => ?_) | refine WPo_gard (fun b1 => ?_) (fun b1 => ?_) | refine WPo_gardT (fun b1 => ?_) (fun b1 => ?_)) <;> (try simp only [Bool.not_eq_true', Bool.not_eq_false'] at b1))
  · have b1' := b1
    simp only [decide_eq_false_iff_not] at b1'
    obtain ⟨B, o, c, e, hB, r0⟩ := rd_byte hs (i := 0) (by omega)
    cases e
    rw [Nat.add_zero] at r0
    have hw0 : wrapF .i64 (bN q 0 : Int) = bN q 0 := wrap64 (by have := bN_lt q 0; omega)
    have hlt0 := bN_lt q 0
    have hwm0 : wrapF .i64 (7 * (bN q 0 : Int)) = 7 * (bN q 0 : Int) := wrap64 (by omega)
    simp (maxSteps := 1000000) (disch := first | decide | omega | (simp only [go_sem]; first | done | omega)) only [go_sem, Int.reduceToNat, Nat.reduceMul, Nat.reduceAdd, Nat.reduceSub, ↓EU_region, ↓EU_draw, b1, r0, hw0, hwm0]
    ((repeat refine WPo_ob ?_); (first | refine WPo_cond (fun b2 => ?_) (fun b2 => ?_) | refine WPo_gard (fun b2 => ?_) (fun b2 => ?_) | refine WPo_gardT (fun b2 => ?_) (fun b2 => ?_)) <;> (try simp only [Bool.not_eq_true', Bool.not_eq_false'] at b2))
    · have b2' := b2
      simp only [decide_eq_false_iff_not] at b2'
      rw [if_pos (.inr (by omega))]
      simp (maxSteps := 1000000) (disch := first | decide | omega | (simp only [go_sem]; first | done | omega)) only [go_sem, Int.reduceToNat, Nat.reduceMul, Nat.reduceAdd, Nat.reduceSub, ↓EU_region, ↓EU_draw, b2]
      exact ⟨trivial, Ext.refl _⟩
    · have b2' := b2
      simp only [decide_eq_true_eq] at b2'
      rw [if_neg (by omega)]
      obtain ⟨u1, hu1, su1, bu1⟩ := cut_from fc_sl_37 hs .i64 1 1 rfl (by omega)
      generalize hrest : q.drop 1 = rest at su1
      have hrl : rest.length = 7 * bN q 0 := by rw [← hrest, List.length_drop]; omega
      generalize bN q 0 = n at *
      simp (maxSteps := 1000000) (disch := first | decide | omega | (simp only [go_sem]; first | done | omega)) only [go_sem, Int.reduceToNat, Nat.reduceMul, Nat.reduceAdd, Nat.reduceSub, ↓EU_region, ↓EU_draw, b2, hu1]
      repeat refine WPo_ob ?_
      refine (LP_rule (fun m st => ∃ (i : Nat) (tm : Fr) (h' : Heap) (u v : Value), st = ⟨tm, h', []⟩ ∧ m = n - i ∧ i ≤ n ∧ Fr.get tm 0 = u ∧ Fr.get tm 1 = .bool true ∧ Fr.get tm 7 = v ∧ SL byteE 1 h' u (rest.drop (7 * i)) ∧ (∀ i, blkOf u i → i < h.next) ∧ OW itemE 3 h' v (decVs 2 i rest) ∧ Fresh h.next v ∧ Ext h h')
        (fun q => ∃ tm h' v, q.2 = ⟨tm, h', []⟩ ∧ q.1 = .exit 0 ∧ Fr.get tm 7 = v ∧ OW itemE 3 h' v (decVs 2 n rest) ∧ Fresh h.next v ∧ Ext h h') ?_ n _ _ ?_ ?_).mono ?_
      · rintro m _ ⟨i, tm, h', u, v, rfl, rfl, hi, k0, k1, k7, sui, hui, hov, hfv, x'⟩
        obtain ⟨aq, kq, rfl⟩ := sui.val
        have hql : (rest.drop (7 * i)).length = 7 * n - 7 * i := by rw [List.length_drop, hrl]
        simp (maxSteps := 1000000) (disch := first | decide | omega | (simp only [go_sem]; first | done | omega)) only [go_sem, Int.reduceToNat, Nat.reduceMul, Nat.reduceAdd, Nat.reduceSub, ↓EU_region, ↓EU_draw, k0, k1, k7]
        ((repeat refine WPo_ob ?_); (first | refine WPo_cond (fun b3 => ?_) (fun b3 => ?_) | refine WPo_gard (fun b3 => ?_) (fun b3 => ?_) | refine WPo_gardT (fun b3 => ?_) (fun b3 => ?_)) <;> (try simp only [Bool.not_eq_true', Bool.not_eq_false'] at b3))
        · have b3' := b3
          simp only [decide_eq_true_eq] at b3'
          have hin : i < n := by omega
          simp (maxSteps := 1000000) (disch := first | decide | omega | (simp only [go_sem]; first | done | omega)) only [go_sem, Int.reduceToNat, Nat.reduceMul, Nat.reduceAdd, Nat.reduceSub, ↓EU_region, ↓EU_draw, k0, k1, k7]
          repeat refine WPo_ob ?_
          refine (read_ev _ _ 2 h' sui (by omega) (by decide) (by omega)).mono ?_
          rintro _ ⟨w1, rfl, sw1, bw1⟩
          simp (maxSteps := 1000000) (disch := first | decide | omega | (simp only [go_sem]; first | done | omega)) only [go_sem, Int.reduceToNat, Nat.reduceMul, Nat.reduceAdd, Nat.reduceSub, ↓EU_region, ↓EU_draw, k1, k7]
          repeat refine WPo_ob ?_
          refine (read_ev _ _ 1 h' sw1 (by rw [List.length_drop]; omega) (by decide) (by rw [List.length_drop]; omega)).mono ?_
          rintro _ ⟨w2, rfl, sw2, bw2⟩
          simp (maxSteps := 1000000) (disch := first | decide | omega | (simp only [go_sem]; first | done | omega)) only [go_sem, Int.reduceToNat, Nat.reduceMul, Nat.reduceAdd, Nat.reduceSub, ↓EU_region, ↓EU_draw, k1, k7]
          repeat refine WPo_ob ?_
          refine (read_ev _ _ 4 h' sw2 (by rw [List.length_drop, List.length_drop]; omega) (by decide) (by rw [List.length_drop, List.length_drop]; omega)).mono ?_
          rintro _ ⟨w3, rfl, sw3, bw3⟩
          have hi4 := wrap_i32 (readN (((rest.drop (7 * i)).drop 2).drop 1 |>.take 4))
          have hwl : wrapF .i64 (wrapF .i32 (readN (((rest.drop (7 * i)).drop 2).drop 1 |>.take 4))) = wrapF .i32 (readN (((rest.drop (7 * i)).drop 2).drop 1 |>.take 4)) := wrap64 (by omega)
          have hwm : wrapF .i64 (wrapF .i32 (readN (((rest.drop (7 * i)).drop 2).drop 1 |>.take 4)) * 232792560) = wrapF .i32 (readN (((rest.drop (7 * i)).drop 2).drop 1 |>.take 4)) * 232792560 := wrap64 (by omega)
          simp (maxSteps := 1000000) (disch := first | decide | omega | (simp only [go_sem]; first | done | omega)) only [go_sem, Int.reduceToNat, Nat.reduceMul, Nat.reduceAdd, Nat.reduceSub, ↓EU_region, ↓EU_draw, k1, k7, hwl, hwm]
          have hit : decIt 2 (rest.drop (7 * i)) = ⟨readN ((rest.drop (7 * i)).take 2), readN (((rest.drop (7 * i)).drop 2).take 1), (wrapF .i32 (readN (List.take 4 (List.drop 1 (List.drop 2 (rest.drop (7 * i)))))) * 232792560)⟩ := by
            unfold decIt
            rw [readN_one]
            rw [show List.drop 1 (List.drop 2 (rest.drop (7 * i))) = (rest.drop (7 * i)).drop 3 by rw [List.drop_drop]]; rfl
          have hsn := decVs_snoc 2 i rest
          rw [show szV 2 = 7 from rfl, hit] at hsn
          have hsw : SL byteE 1 h' w3 (rest.drop (7 * (i + 1))) := by
            have := sw3
            simp only [List.drop_drop] at this
            rw [show 7 * (i + 1) = 7 * i + 7 by omega]
            exact this
          repeat refine WPo_ob ?_
          have hlit := OW.lit itemE_len h' [(⟨readN ((rest.drop (7 * i)).take 2), readN (((rest.drop (7 * i)).drop 2).take 1), (wrapF .i32 (readN (List.take 4 (List.drop 1 (List.drop 2 (rest.drop (7 * i)))))) * 232792560)⟩ : Item)]
          rw [List.flatMap_cons, List.flatMap_nil, List.append_nil] at hlit
          unfold itemE at hlit
          refine append_gr (l := decVs 2 i rest) (l' := [(⟨readN ((rest.drop (7 * i)).take 2), readN (((rest.drop (7 * i)).drop 2).take 1), (wrapF .i32 (readN (List.take 4 (List.drop 1 (List.drop 2 (rest.drop (7 * i)))))) * 232792560)⟩ : Item)]) fc_ap_22_22 itemE_len (by decide) itemE_scal (hov.ext ((Ext.refl h').push _)) hlit.sl (by rw [decVs_len]; simp only [List.length_cons, List.length_nil]; omega) (by rw [decVs_len]; simp only [List.length_cons, List.length_nil]; omega) fun v' h'' hov' gr => ?_
          rw [← hsn] at hov'
          have hm1 : ∀ j, blkOf v j → h.next ≤ j := fun j hj => hfv j hj
          have hm2 : Mod (fun j => h.next ≤ j) h' h'' := ((Mod.refl _ h').push _).trans (gr.mod.mono fun j _ hj => hm1 j hj)
          have hn' := x'.le
          simp (maxSteps := 1000000) (disch := first | decide | omega | (simp only [go_sem]; first | done | omega)) only [go_sem, Int.reduceToNat, Nat.reduceMul, Nat.reduceAdd, Nat.reduceSub, ↓EU_region, ↓EU_draw, k1]
          exact ⟨_, by omega, i + 1, _, h'', w3, v', rfl, rfl, by omega, by simp (maxSteps := 1000000) (disch := first | decide | omega | (simp only [go_sem]; first | done | omega)) only [go_sem, Int.reduceToNat, Nat.reduceMul, Nat.reduceAdd, Nat.reduceSub, ↓EU_region, ↓EU_draw], by simp (maxSteps := 1000000) (disch := first | decide | omega | (simp only [go_sem]; first | done | omega)) only [go_sem, Int.reduceToNat, Nat.reduceMul, Nat.reduceAdd, Nat.reduceSub, ↓EU_region, ↓EU_draw, k1], by simp (maxSteps := 1000000) (disch := first | decide | omega | (simp only [go_sem]; first | done | omega)) only [go_sem, Int.reduceToNat, Nat.reduceMul, Nat.reduceAdd, Nat.reduceSub, ↓EU_region, ↓EU_draw], hsw.modB hm2 (fun j hj => by have := hui j (bw1 j (bw2 j (bw3 j hj))); omega), fun j hj => hui j (bw1 j (bw2 j (bw3 j hj))), hov', gr.fresh hfv (by rw [next_push]; omega), gr.ext0 (x'.push _) hfv⟩
        · have b3' := b3
          simp only [decide_eq_false_iff_not] at b3'
          have : i = n := by omega
          subst this
          simp (maxSteps := 1000000) (disch := first | decide | omega | (simp only [go_sem]; first | done | omega)) only [go_sem, Int.reduceToNat, Nat.reduceMul, Nat.reduceAdd, Nat.reduceSub, ↓EU_region, ↓EU_draw]
          exact ⟨_, _, v, rfl, trivial, by simp (maxSteps := 1000000) (disch := first | decide | omega | (simp only [go_sem]; first | done | omega)) only [go_sem, Int.reduceToNat, Nat.reduceMul, Nat.reduceAdd, Nat.reduceSub, ↓EU_region, ↓EU_draw, k7], hov, hfv, x'⟩
      · exact ⟨0, _, _, u1, _, rfl, rfl, by omega, by simp (maxSteps := 1000000) (disch := first | decide | omega | (simp only [go_sem]; first | done | omega)) only [go_sem, Int.reduceToNat, Nat.reduceMul, Nat.reduceAdd, Nat.reduceSub, ↓EU_region, ↓EU_draw], by simp (maxSteps := 1000000) (disch := first | decide | omega | (simp only [go_sem]; first | done | omega)) only [go_sem, Int.reduceToNat, Nat.reduceMul, Nat.reduceAdd, Nat.reduceSub, ↓EU_region, ↓EU_draw], by simp (maxSteps := 1000000) (disch := first | decide | omega | (simp only [go_sem]; first | done | omega)) only [go_sem, Int.reduceToNat, Nat.reduceMul, Nat.reduceAdd, Nat.reduceSub, ↓EU_region, ↓EU_draw], su1, fun j hj => hs.lt (bu1 j hj), OW.nil, Fresh.nil _ _ _, Ext.refl _⟩
      · omega
      · rintro ⟨q, _⟩ ⟨tm, h', v, rfl, rfl, k7, hov, hfv, x'⟩
        simp (maxSteps := 1000000) (disch := first | decide | omega | (simp only [go_sem]; first | done | omega)) only [go_sem, Int.reduceToNat, Nat.reduceMul, Nat.reduceAdd, Nat.reduceSub, ↓EU_region, ↓EU_draw, k7]
        exact ⟨v, rfl, hov, hfv, x'⟩
  · have b1' := b1
    simp only [decide_eq_true_eq] at b1'
    rw [if_pos (.inl (by omega))]
    simp (maxSteps := 1000000) (disch := first | decide | omega | (simp only [go_sem]; first | done | omega)) only [go_sem, Int.reduceToNat, Nat.reduceMul, Nat.reduceAdd, Nat.reduceSub, ↓EU_region, ↓EU_draw, b1]
    exact ⟨trivial, Ext.refl _⟩
end Go.Proofs.YtddgcakiceodgaaGreat.EV
