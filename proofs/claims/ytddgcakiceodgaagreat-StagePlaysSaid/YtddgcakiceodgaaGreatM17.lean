/- Contracts: elder's items, Up, Read. No condition. Contracts: elder's Up, Read. No condition. Contract: elder's Read. No condition. Contracts: owed.Find, check.Form. No condition. -/
import Derived.Test.YtddgcakiceodgaaGreatM16
import Derived.Test.YtddgcakiceodgaaGreatM10
namespace Go.Proofs.YtddgcakiceodgaaGreat.EV
open Go Go.Proofs
set_option linter.unusedVariables false
set_option linter.unusedSimpArgs false
set_option maxRecDepth 100000
noncomputable def itemsV (v : Int) (q : List UInt8) : Option (List Item) := if q.length < 1 ∨ q.length ≠ 1 + szV v * bN q 0 then none else some (decVs v (bN q 0) (q.drop 1))
theorem items1_ev (q : List UInt8) (s : Value) (h : Heap) (hs : SL byteE 1 h s q) (hl : q.length < 800000) :
  WPo (EF Tryz.prog O0 93 [s, .bool false] h) fun r => match itemsV 1 q with
   | none => r.1 = .tuple ⟨[.slice none 0 1, .bool false]⟩ ∧ Ext h r.2
   | some l => ∃ v, r.1 = .tuple ⟨[v, .bool true]⟩ ∧ OW itemE 3 r.2 v l ∧ Fresh h.next v ∧ Ext h r.2 := by
 unfold itemsV
 rw [show szV 1 = 3 from rfl]
 rw [EF_body (O := O0) (by kernel_rfl) Tryz.func93 rfl (rs := [.tmp 4, .tmp 5]) rfl (bad := []) (by kernel_rfl) _ _ (m := 59) rfl]
 obtain ⟨a0, c0, hv0⟩ := hs.val
 subst hv0
 simp (disch := first|exact dis|fail) only [go_sem, simprocAttr, ↓EU_rg]
 ((repeat refine WPo_ob ?_); (first | refine WPo_cond (fun b1 => ?_) (fun b1 => ?_) | refine WPo_gard (fun b1 => ?_) (fun b1 => ?_) | refine WPo_gardT (fun b1 => ?_) (fun b1 => ?_)) <;> (try simp only [Bool.not_eq_true', Bool.not_eq_false'] at b1))
 ·have b1' := b1
  simp only [decide_eq_false_iff_not] at b1'
  obtain ⟨B, o, c, e, hB, r0⟩ := rd_byte hs (i := 0) (by omega)
  cases e
  rw [Nat.add_zero] at r0
  have hw0 : wrapF .i64 (bN q 0 : Int) = bN q 0 := wrap64 (by have := bN_lt q 0; omega)
  have hlt0 := bN_lt q 0
  have hwm0 : wrapF .i64 (3 * (bN q 0 : Int)) = 3 * (bN q 0 : Int) := wrap64 (by omega)
  simp (disch := first|exact dis|fail) only [go_sem, simprocAttr, ↓EU_rg, b1, r0, hw0, hwm0]
  ((repeat refine WPo_ob ?_); (first | refine WPo_cond (fun b2 => ?_) (fun b2 => ?_) | refine WPo_gard (fun b2 => ?_) (fun b2 => ?_) | refine WPo_gardT (fun b2 => ?_) (fun b2 => ?_)) <;> (try simp only [Bool.not_eq_true', Bool.not_eq_false'] at b2))
  ·have b2' := b2
   simp only [decide_eq_false_iff_not] at b2'
   rw [if_pos (.inr (by omega))]
   simp (disch := first|exact dis|fail) only [go_sem, simprocAttr, ↓EU_rg, b2]
   exact ⟨trivial, Ext.refl _⟩
  ·have b2' := b2
   simp only [decide_eq_true_eq] at b2'
   rw [if_neg (by omega)]
   obtain ⟨u1, hu1, su1, bu1⟩ := cut_from fc_sl_37 hs .i64 1 1 rfl (by omega)
   generalize hrest : q.drop 1 = rest at su1
   have hrl : rest.length = 3 * bN q 0 := by rw [← hrest, List.length_drop]; omega
   generalize bN q 0 = n at *
   simp (disch := first|exact dis|fail) only [go_sem, simprocAttr, ↓EU_rg, b2, hu1]
   repeat refine WPo_ob ?_
   refine (LP_rule (fun m st => ∃ (i : Nat) (tm : Fr) (h' : Heap) (u v : Value), st = ⟨tm, h', []⟩ ∧ m = n - i ∧ i ≤ n ∧ Fr.get tm 0 = u ∧ Fr.get tm 1 = .bool false ∧ Fr.get tm 7 = v ∧ SL byteE 1 h' u (rest.drop (3 * i)) ∧ (∀ i, blkOf u i → i < h.next) ∧ OW itemE 3 h' v (decVs 1 i rest) ∧ Fresh h.next v ∧ Ext h h')
    (fun q => ∃ tm h' v, q.2 = ⟨tm, h', []⟩ ∧ q.1 = .exit 0 ∧ Fr.get tm 7 = v ∧ OW itemE 3 h' v (decVs 1 n rest) ∧ Fresh h.next v ∧ Ext h h') ?_ n _ _ ?_ ?_).mono ?_
   ·rintro m _ ⟨i, tm, h', u, v, rfl, rfl, hi, k0, k1, k7, sui, hui, hov, hfv, x'⟩
    obtain ⟨aq, kq, rfl⟩ := sui.val
    have hql : (rest.drop (3 * i)).length = 3 * n - 3 * i := by rw [List.length_drop, hrl]
    simp (disch := first|exact dis|fail) only [go_sem, simprocAttr, ↓EU_rg, k0, k1, k7]
    ((repeat refine WPo_ob ?_); (first | refine WPo_cond (fun b3 => ?_) (fun b3 => ?_) | refine WPo_gard (fun b3 => ?_) (fun b3 => ?_) | refine WPo_gardT (fun b3 => ?_) (fun b3 => ?_)) <;> (try simp only [Bool.not_eq_true', Bool.not_eq_false'] at b3))
    ·have b3' := b3
     simp only [decide_eq_true_eq] at b3'
     have hin : i < n := by omega
     simp (disch := first|exact dis|fail) only [go_sem, simprocAttr, ↓EU_rg, k0, k1, k7]
     repeat refine WPo_ob ?_
     refine (read_ev _ _ 2 h' sui (by omega) (by decide) (by omega)).mono ?_
     rintro _ ⟨w1, rfl, sw1, bw1⟩
     simp (disch := first|exact dis|fail) only [go_sem, simprocAttr, ↓EU_rg, k1, k7]
     repeat refine WPo_ob ?_
     refine (read_ev _ _ 1 h' sw1 (by rw [List.length_drop]; omega) (by decide) (by rw [List.length_drop]; omega)).mono ?_
     rintro _ ⟨w2, rfl, sw2, bw2⟩
     simp (disch := first|exact dis|fail) only [go_sem, simprocAttr, ↓EU_rg, k1, k7]
     skip
     have hit : decIt 1 (rest.drop (3 * i)) = ⟨readN ((rest.drop (3 * i)).take 2), readN (((rest.drop (3 * i)).drop 2).take 1), (wrapF .i32 0 * 232792560)⟩ := by
      unfold decIt
      rw [readN_one]
      rfl
     have hsn := decVs_snoc 1 i rest
     rw [show szV 1 = 3 from rfl, hit] at hsn
     have hsw : SL byteE 1 h' w2 (rest.drop (3 * (i + 1))) := by
      have := sw2
      simp only [List.drop_drop] at this
      rw [show 3 * (i + 1) = 3 * i + 3 by omega]
      exact this
     repeat refine WPo_ob ?_
     have hlit := OW.lit itemE_len h' [(⟨readN ((rest.drop (3 * i)).take 2), readN (((rest.drop (3 * i)).drop 2).take 1), (wrapF .i32 0 * 232792560)⟩ : Item)]
     rw [List.flatMap_cons, List.flatMap_nil, List.append_nil] at hlit
     unfold itemE at hlit
     refine append_gr (l := decVs 1 i rest) (l' := [(⟨readN ((rest.drop (3 * i)).take 2), readN (((rest.drop (3 * i)).drop 2).take 1), (wrapF .i32 0 * 232792560)⟩ : Item)]) fc_ap_22_22 itemE_len (by decide) itemE_scal (hov.ext ((Ext.refl h').push _)) hlit.sl (by rw [decVs_len]; simp only [List.length_cons, List.length_nil]; omega) (by rw [decVs_len]; simp only [List.length_cons, List.length_nil]; omega) fun v' h'' hov' gr => ?_
     rw [← hsn] at hov'
     have hm1 : ∀ j, blkOf v j → h.next ≤ j := fun j hj => hfv j hj
     have hm2 : Mod (fun j => h.next ≤ j) h' h'' := ((Mod.refl _ h').push _).trans (gr.mod.mono fun j _ hj => hm1 j hj)
     have hn' := x'.le
     simp (disch := first|exact dis|fail) only [go_sem, simprocAttr, ↓EU_rg, k1]
     exact ⟨_, by omega, i + 1, _, h'', w2, v', rfl, rfl, by omega, by simp (disch := first|exact dis|fail) only [go_sem, simprocAttr, ↓EU_rg], by simp (disch := first|exact dis|fail) only [go_sem, simprocAttr, ↓EU_rg, k1], by simp (disch := first|exact dis|fail) only [go_sem, simprocAttr, ↓EU_rg], hsw.modB hm2 (fun j hj => by have := hui j (bw1 j (bw2 j hj)); omega), fun j hj => hui j (bw1 j (bw2 j hj)), hov', gr.fresh hfv (by rw [next_push]; omega), gr.ext0 (x'.push _) hfv⟩
    ·have b3' := b3
     simp only [decide_eq_false_iff_not] at b3'
     have : i = n := by omega
     subst this
     simp (disch := first|exact dis|fail) only [go_sem, simprocAttr, ↓EU_rg]
     exact ⟨_, _, v, rfl, trivial, by simp (disch := first|exact dis|fail) only [go_sem, simprocAttr, ↓EU_rg, k7], hov, hfv, x'⟩
   ·exact ⟨0, _, _, u1, _, rfl, rfl, by omega, by simp (disch := first|exact dis|fail) only [go_sem, simprocAttr, ↓EU_rg], by simp (disch := first|exact dis|fail) only [go_sem, simprocAttr, ↓EU_rg], by simp (disch := first|exact dis|fail) only [go_sem, simprocAttr, ↓EU_rg], su1, fun j hj => hs.lt (bu1 j hj), OW.nil, Fresh.nil _ _ _, Ext.refl _⟩
   ·omega
   ·rintro ⟨q, _⟩ ⟨tm, h', v, rfl, rfl, k7, hov, hfv, x'⟩
    simp (disch := first|exact dis|fail) only [go_sem, simprocAttr, ↓EU_rg, k7]
    exact ⟨v, rfl, hov, hfv, x'⟩
 ·have b1' := b1
  simp only [decide_eq_true_eq] at b1'
  rw [if_pos (.inl (by omega))]
  simp (disch := first|exact dis|fail) only [go_sem, simprocAttr, ↓EU_rg, b1]
  exact ⟨trivial, Ext.refl _⟩
theorem items2_ev (q : List UInt8) (s : Value) (h : Heap) (hs : SL byteE 1 h s q) (hl : q.length < 800000) :
  WPo (EF Tryz.prog O0 93 [s, .bool true] h) fun r => match itemsV 2 q with
   | none => r.1 = .tuple ⟨[.slice none 0 1, .bool false]⟩ ∧ Ext h r.2
   | some l => ∃ v, r.1 = .tuple ⟨[v, .bool true]⟩ ∧ OW itemE 3 r.2 v l ∧ Fresh h.next v ∧ Ext h r.2 := by
 unfold itemsV
 rw [show szV 2 = 7 from rfl]
 rw [EF_body (O := O0) (by kernel_rfl) Tryz.func93 rfl (rs := [.tmp 4, .tmp 5]) rfl (bad := []) (by kernel_rfl) _ _ (m := 59) rfl]
 obtain ⟨a0, c0, hv0⟩ := hs.val
 subst hv0
 simp (disch := first|exact dis|fail) only [go_sem, simprocAttr, ↓EU_rg]
 ((repeat refine WPo_ob ?_); (first | refine WPo_cond (fun b1 => ?_) (fun b1 => ?_) | refine WPo_gard (fun b1 => ?_) (fun b1 => ?_) | refine WPo_gardT (fun b1 => ?_) (fun b1 => ?_)) <;> (try simp only [Bool.not_eq_true', Bool.not_eq_false'] at b1))
 ·have b1' := b1
  simp only [decide_eq_false_iff_not] at b1'
  obtain ⟨B, o, c, e, hB, r0⟩ := rd_byte hs (i := 0) (by omega)
  cases e
  rw [Nat.add_zero] at r0
  have hw0 : wrapF .i64 (bN q 0 : Int) = bN q 0 := wrap64 (by have := bN_lt q 0; omega)
  have hlt0 := bN_lt q 0
  have hwm0 : wrapF .i64 (7 * (bN q 0 : Int)) = 7 * (bN q 0 : Int) := wrap64 (by omega)
  simp (disch := first|exact dis|fail) only [go_sem, simprocAttr, ↓EU_rg, b1, r0, hw0, hwm0]
  ((repeat refine WPo_ob ?_); (first | refine WPo_cond (fun b2 => ?_) (fun b2 => ?_) | refine WPo_gard (fun b2 => ?_) (fun b2 => ?_) | refine WPo_gardT (fun b2 => ?_) (fun b2 => ?_)) <;> (try simp only [Bool.not_eq_true', Bool.not_eq_false'] at b2))
  ·have b2' := b2
   simp only [decide_eq_false_iff_not] at b2'
   rw [if_pos (.inr (by omega))]
   simp (disch := first|exact dis|fail) only [go_sem, simprocAttr, ↓EU_rg, b2]
   exact ⟨trivial, Ext.refl _⟩
  ·have b2' := b2
   simp only [decide_eq_true_eq] at b2'
   rw [if_neg (by omega)]
   obtain ⟨u1, hu1, su1, bu1⟩ := cut_from fc_sl_37 hs .i64 1 1 rfl (by omega)
   generalize hrest : q.drop 1 = rest at su1
   have hrl : rest.length = 7 * bN q 0 := by rw [← hrest, List.length_drop]; omega
   generalize bN q 0 = n at *
   simp (disch := first|exact dis|fail) only [go_sem, simprocAttr, ↓EU_rg, b2, hu1]
   repeat refine WPo_ob ?_
   refine (LP_rule (fun m st => ∃ (i : Nat) (tm : Fr) (h' : Heap) (u v : Value), st = ⟨tm, h', []⟩ ∧ m = n - i ∧ i ≤ n ∧ Fr.get tm 0 = u ∧ Fr.get tm 1 = .bool true ∧ Fr.get tm 7 = v ∧ SL byteE 1 h' u (rest.drop (7 * i)) ∧ (∀ i, blkOf u i → i < h.next) ∧ OW itemE 3 h' v (decVs 2 i rest) ∧ Fresh h.next v ∧ Ext h h')
    (fun q => ∃ tm h' v, q.2 = ⟨tm, h', []⟩ ∧ q.1 = .exit 0 ∧ Fr.get tm 7 = v ∧ OW itemE 3 h' v (decVs 2 n rest) ∧ Fresh h.next v ∧ Ext h h') ?_ n _ _ ?_ ?_).mono ?_
   ·rintro m _ ⟨i, tm, h', u, v, rfl, rfl, hi, k0, k1, k7, sui, hui, hov, hfv, x'⟩
    obtain ⟨aq, kq, rfl⟩ := sui.val
    have hql : (rest.drop (7 * i)).length = 7 * n - 7 * i := by rw [List.length_drop, hrl]
    simp (disch := first|exact dis|fail) only [go_sem, simprocAttr, ↓EU_rg, k0, k1, k7]
    ((repeat refine WPo_ob ?_); (first | refine WPo_cond (fun b3 => ?_) (fun b3 => ?_) | refine WPo_gard (fun b3 => ?_) (fun b3 => ?_) | refine WPo_gardT (fun b3 => ?_) (fun b3 => ?_)) <;> (try simp only [Bool.not_eq_true', Bool.not_eq_false'] at b3))
    ·have b3' := b3
     simp only [decide_eq_true_eq] at b3'
     have hin : i < n := by omega
     simp (disch := first|exact dis|fail) only [go_sem, simprocAttr, ↓EU_rg, k0, k1, k7]
     repeat refine WPo_ob ?_
     refine (read_ev _ _ 2 h' sui (by omega) (by decide) (by omega)).mono ?_
     rintro _ ⟨w1, rfl, sw1, bw1⟩
     simp (disch := first|exact dis|fail) only [go_sem, simprocAttr, ↓EU_rg, k1, k7]
     repeat refine WPo_ob ?_
     refine (read_ev _ _ 1 h' sw1 (by rw [List.length_drop]; omega) (by decide) (by rw [List.length_drop]; omega)).mono ?_
     rintro _ ⟨w2, rfl, sw2, bw2⟩
     simp (disch := first|exact dis|fail) only [go_sem, simprocAttr, ↓EU_rg, k1, k7]
     repeat refine WPo_ob ?_
     refine (read_ev _ _ 4 h' sw2 (by rw [List.length_drop, List.length_drop]; omega) (by decide) (by rw [List.length_drop, List.length_drop]; omega)).mono ?_
     rintro _ ⟨w3, rfl, sw3, bw3⟩
     have hi4 := wrap_i32 (readN (((rest.drop (7 * i)).drop 2).drop 1 |>.take 4))
     have hwl : wrapF .i64 (wrapF .i32 (readN (((rest.drop (7 * i)).drop 2).drop 1 |>.take 4))) = wrapF .i32 (readN (((rest.drop (7 * i)).drop 2).drop 1 |>.take 4)) := wrap64 (by omega)
     have hwm : wrapF .i64 (wrapF .i32 (readN (((rest.drop (7 * i)).drop 2).drop 1 |>.take 4)) * 232792560) = wrapF .i32 (readN (((rest.drop (7 * i)).drop 2).drop 1 |>.take 4)) * 232792560 := wrap64 (by omega)
     simp (disch := first|exact dis|fail) only [go_sem, simprocAttr, ↓EU_rg, k1, k7, hwl, hwm]
     have hit : decIt 2 (rest.drop (7 * i)) = ⟨readN ((rest.drop (7 * i)).take 2), readN (((rest.drop (7 * i)).drop 2).take 1), (wrapF .i32 (readN (List.take 4 (List.drop 1 (List.drop 2 (rest.drop (7 * i)))))) * 232792560)⟩ := by
      unfold decIt
      rw [readN_one]
      rw [show List.drop 1 (List.drop 2 (rest.drop (7 * i))) = (rest.drop (7 * i)).drop 3 by rw [List.drop_drop]]; rfl
     have hsn := decVs_snoc 2 i rest
     rw [show szV 2 = 7 from rfl, hit] at hsn
     have hsw : SL byteE 1 h' w3 (rest.drop (7 * (i + 1))) := by
      have := sw3
      simp only [List.drop_drop] at this
      rw [show 7 * (i + 1) = 7 * i + 7 by omega]
      exact this
     repeat refine WPo_ob ?_
     have hlit := OW.lit itemE_len h' [(⟨readN ((rest.drop (7 * i)).take 2), readN (((rest.drop (7 * i)).drop 2).take 1), (wrapF .i32 (readN (List.take 4 (List.drop 1 (List.drop 2 (rest.drop (7 * i)))))) * 232792560)⟩ : Item)]
     rw [List.flatMap_cons, List.flatMap_nil, List.append_nil] at hlit
     unfold itemE at hlit
     refine append_gr (l := decVs 2 i rest) (l' := [(⟨readN ((rest.drop (7 * i)).take 2), readN (((rest.drop (7 * i)).drop 2).take 1), (wrapF .i32 (readN (List.take 4 (List.drop 1 (List.drop 2 (rest.drop (7 * i)))))) * 232792560)⟩ : Item)]) fc_ap_22_22 itemE_len (by decide) itemE_scal (hov.ext ((Ext.refl h').push _)) hlit.sl (by rw [decVs_len]; simp only [List.length_cons, List.length_nil]; omega) (by rw [decVs_len]; simp only [List.length_cons, List.length_nil]; omega) fun v' h'' hov' gr => ?_
     rw [← hsn] at hov'
     have hm1 : ∀ j, blkOf v j → h.next ≤ j := fun j hj => hfv j hj
     have hm2 : Mod (fun j => h.next ≤ j) h' h'' := ((Mod.refl _ h').push _).trans (gr.mod.mono fun j _ hj => hm1 j hj)
     have hn' := x'.le
     simp (disch := first|exact dis|fail) only [go_sem, simprocAttr, ↓EU_rg, k1]
     exact ⟨_, by omega, i + 1, _, h'', w3, v', rfl, rfl, by omega, by simp (disch := first|exact dis|fail) only [go_sem, simprocAttr, ↓EU_rg], by simp (disch := first|exact dis|fail) only [go_sem, simprocAttr, ↓EU_rg, k1], by simp (disch := first|exact dis|fail) only [go_sem, simprocAttr, ↓EU_rg], hsw.modB hm2 (fun j hj => by have := hui j (bw1 j (bw2 j (bw3 j hj))); omega), fun j hj => hui j (bw1 j (bw2 j (bw3 j hj))), hov', gr.fresh hfv (by rw [next_push]; omega), gr.ext0 (x'.push _) hfv⟩
    ·have b3' := b3
     simp only [decide_eq_false_iff_not] at b3'
     have : i = n := by omega
     subst this
     simp (disch := first|exact dis|fail) only [go_sem, simprocAttr, ↓EU_rg]
     exact ⟨_, _, v, rfl, trivial, by simp (disch := first|exact dis|fail) only [go_sem, simprocAttr, ↓EU_rg, k7], hov, hfv, x'⟩
   ·exact ⟨0, _, _, u1, _, rfl, rfl, by omega, by simp (disch := first|exact dis|fail) only [go_sem, simprocAttr, ↓EU_rg], by simp (disch := first|exact dis|fail) only [go_sem, simprocAttr, ↓EU_rg], by simp (disch := first|exact dis|fail) only [go_sem, simprocAttr, ↓EU_rg], su1, fun j hj => hs.lt (bu1 j hj), OW.nil, Fresh.nil _ _ _, Ext.refl _⟩
   ·omega
   ·rintro ⟨q, _⟩ ⟨tm, h', v, rfl, rfl, k7, hov, hfv, x'⟩
    simp (disch := first|exact dis|fail) only [go_sem, simprocAttr, ↓EU_rg, k7]
    exact ⟨v, rfl, hov, hfv, x'⟩
 ·have b1' := b1
  simp only [decide_eq_true_eq] at b1'
  rw [if_pos (.inl (by omega))]
  simp (disch := first|exact dis|fail) only [go_sem, simprocAttr, ↓EU_rg, b1]
  exact ⟨trivial, Ext.refl _⟩
noncomputable def upR (l : List UInt8) : List UInt8 × Int :=
 if (readR l).2.2.2.2 ≠ 0 then ([], (readR l).2.2.2.2) else if (readR l).1 = 3 then (l, 0) else (sealN (encF (readR l).2.1 (readR l).2.2.1 (readR l).2.2.2.1), 0)
noncomputable def upV (v : Int) (b : List UInt8) : List UInt8 × Int :=
 if b.length < 1 + curL v then ([], 8) else match itemsV v (b.drop (1 + curL v)) with
  | none => ([], 8)
  | some its => if cgood (bN b 0) (if curL v = 0 then -1 else readN ((b.drop 1).take (curL v)) - 1) its then (sealN (encF (bN b 0) (if curL v = 0 then -1 else readN ((b.drop 1).take (curL v)) - 1) its), 0) else ([], 11)
theorem upV_body {v : Int} {p : List UInt8} (hv : v = 1 ∨ v = 2) (h3 : 3 ≤ p.length) : upV v (p.drop 3) = if (bodyV v p).2.2.2 ≠ 0 then ([], (bodyV v p).2.2.2) else (sealN (encF (bodyV v p).1 (bodyV v p).2.1 (bodyV v p).2.2.1), 0) := by
 have e0 : bN (p.drop 3) 0 = bN p 3 := bN_drop p 3 0
 have e1 : (if curL v = 0 then -1 else readN (((p.drop 3).drop 1).take (curL v)) - 1) = curV v p := by
  unfold curV
  rw [List.drop_drop]
 have e2 : (p.drop 3).drop (1 + curL v) = p.drop (4 + curL v) := by rw [List.drop_drop]; congr 1; omega
 have e3 : bN (p.drop (4 + curL v)) 0 = bN p (4 + curL v) := by rw [bN_drop]; rfl
 have e4 : (p.drop (4 + curL v)).drop 1 = p.drop (5 + curL v) := by rw [List.drop_drop]; congr 1; omega
 have hc : ∀ its, cgood (bN p 3 : Int) (curV v p) its = (decide (bN p 3 ≤ 2) && goodF (curV v p) its) := fun its => by
  unfold cgood
  rw [decide_eq_true (by omega : (0 : Int) ≤ (bN p 3 : Int)), Bool.true_and]
  congr 1
  rw [decide_eq_decide]; omega
 unfold upV itemsV
 rw [e0, e1, e2, e3, e4, List.length_drop, List.length_drop]
 unfold bodyV
 generalize curL v = cl at *
 by_cases q : p.length < 5 + cl ∨ p.length ≠ 5 + cl + szV v * bN p (4 + cl)
 ·rw [if_pos q]
  by_cases q2 : p.length - 3 < 1 + cl
  ·rw [if_pos q2]; rfl
  ·rw [if_neg q2, if_pos (show p.length - (4 + cl) < 1 ∨ p.length - (4 + cl) ≠ 1 + szV v * bN p (4 + cl) by omega)]; rfl
 ·rw [if_neg q, if_neg (show ¬ p.length - 3 < 1 + cl by omega), if_neg (show ¬ (p.length - (4 + cl) < 1 ∨ p.length - (4 + cl) ≠ 1 + szV v * bN p (4 + cl)) by omega)]
  dsimp only
  rw [hc]
  cases hgd : (decide (bN p 3 ≤ 2) && goodF (curV v p) (decVs v (bN p (4 + cl)) (p.drop (5 + cl)))) with
  | true => rw [if_pos rfl]; rfl
  | false => rw [if_neg (by simp)]; rfl
theorem eclone_ev (l : List UInt8) (s : Value) (h : Heap) (hs : SL byteE 1 h s l) (hl : l.length < 900000) :
  WPo (EF Tryz.prog O0 91 [s] h) fun q => OW byteE 1 q.2 q.1 l ∧ Fresh h.next q.1 ∧ Ext h q.2 := by
 rw [EF_body (O := O0) (by kernel_rfl) Tryz.func91 rfl (rs := [.tmp 2]) rfl (bad := []) (by kernel_rfl) _ _ (m := 8) rfl]
 have hs' := hs
 cases hs with
 | nil =>
  simp (disch := first|exact dis|fail) only [go_sem, simprocAttr, ↓EU_rg]
  exact ⟨OW.nil, Fresh.nil _ _ _, Ext.refl _⟩
 | mk b o c l cs hb hc hll hx hcap hq =>
  simp (disch := first|exact dis|fail) only [go_sem, simprocAttr, ↓EU_rg]
  repeat refine WPo_ob ?_
  refine append_own (h0 := h) (l := []) (l' := l) fc_ap_37_37 (fun _ => rfl) (by decide) byteE_scal ((Ext.refl h).push _) (OW.lit byteE_len h []) (Fresh.mk _ _ _ (Nat.le_refl _)) (hs'.ext ((Ext.refl h).push _)) (by simp; omega) (by simp; omega) fun v h' ho hf x _ _ => ?_
  simp (disch := first|exact dis|fail) only [go_sem, simprocAttr, ↓EU_rg]
  exact ⟨ho, hf, x⟩
theorem upR_open (l : List UInt8) : upR l = if (openR l).2.2 ≠ 0 then ([], (openR l).2.2) else if (openR l).2.1 = 3 then (if (getR l).2.2.2 ≠ 0 then ([], (getR l).2.2.2) else (l, 0)) else if (openR l).2.1 ≠ 1 ∧ (openR l).2.1 ≠ 2 then ([], 10) else upV (openR l).2.1 (openR l).1 := by
 cases ho : openN l with
 | none =>
  have e1 : readR l = (0, 0, 0, [], 9) := by unfold readR; rw [ho]
  have e2 : openR l = ([], 0, 9) := by unfold openR; rw [ho]
  unfold upR
  rw [e1, e2]; rfl
 | some p =>
  cases hb : versionN p with
  | none =>
   have e1 : readR l = (0, 0, 0, [], 8) := by unfold readR; rw [ho]; dsimp only; rw [hb]
   have e2 : openR l = ([], 0, 8) := by unfold openR; rw [ho]; dsimp only; rw [hb]
   unfold upR
   rw [e1, e2]; rfl
  | some v =>
   have e1 : readR l = if v < 1 ∨ 3 < v then (v, 0, 0, [], 10) else (v, bodyV v p) := by unfold readR; rw [ho]; dsimp only; rw [hb]
   have e2 : openR l = (p.drop 3, v, 0) := by unfold openR; rw [ho]; dsimp only; rw [hb]
   have h3 : 3 ≤ p.length := by
    obtain ⟨c, r, rfl, rfl⟩ := versionN_inv hb
    simp only [List.length_cons]; omega
   have e3 : getR l = if v ≠ 3 then (0, 0, [], 10) else bodyR (p.drop 3) := by
    unfold getR
    rw [e2]; rfl
   rw [e2]
   dsimp only
   rw [if_neg (show ¬ (0 : Int) ≠ 0 by simp)]
   unfold upR
   by_cases hv : v < 1 ∨ 3 < v
   ·rw [e1, if_pos hv]
    dsimp only
    rw [if_pos (show (10 : Int) ≠ 0 by decide), if_neg (show ¬ v = 3 by omega), if_pos (show v ≠ 1 ∧ v ≠ 2 by omega)]
   ·rw [e1, if_neg hv]
    dsimp only
    by_cases h3' : v = 3
    ·rw [if_pos h3', if_pos h3', e3, if_neg (show ¬ v ≠ 3 by omega), ← bodyV_3 h3, h3']
    ·rw [if_neg h3', if_neg h3', if_neg (show ¬ (v ≠ 1 ∧ v ≠ 2) by omega), upV_body (by omega) h3]
set_option maxHeartbeats 4000000 in
theorem up_ev (l : List UInt8) (s : Value) (h : Heap) (hs : SL byteE 1 h s l) (hl : l.length < 600000) :
  WPo (EF Tryz.prog O0 82 [s] h) fun q => ∃ u, q.1 = .tuple ⟨[u, .int .i64 (upR l).2]⟩ ∧ SL byteE 1 q.2 u (upR l).1 ∧ Ext h q.2 := by
 rw [EF_body (O := O0) (by kernel_rfl) Tryz.func82 rfl (rs := [.tmp 2, .tmp 3]) rfl (bad := []) (by kernel_rfl) _ _ (m := 95) rfl]
 simp (disch := first|exact dis|fail) only [go_sem, simprocAttr, ↓EU_rg]
 repeat refine WPo_ob ?_
 refine (open_ev l s h hs (by omega)).mono ?_
 rintro ⟨w, h1⟩ ⟨u, rfl, x1, su, fu⟩
 simp only at x1 su fu
 have hU := upR_open l
 have hol : (openR l).1.length ≤ l.length := by
  unfold openR
  cases ho : openN l with
  | none => exact Nat.zero_le _
  | some b =>
   have := openN_len ho
   dsimp only
   cases hb : versionN b with
   | none => exact Nat.zero_le _
   | some v => dsimp only; rw [List.length_drop]; omega
 revert hU su hol
 generalize (openR l).2.2 = e
 generalize (openR l).2.1 = vv
 generalize (openR l).1 = b
 intro su hU hol
 obtain ⟨au, ku, hu⟩ := su.val
 simp (disch := first|exact dis|fail) only [go_sem, simprocAttr, ↓EU_rg]
 ((repeat refine WPo_ob ?_); (first | refine WPo_cond (fun b1 => ?_) (fun b1 => ?_) | refine WPo_gard (fun b1 => ?_) (fun b1 => ?_) | refine WPo_gardT (fun b1 => ?_) (fun b1 => ?_)) <;> (try simp only [Bool.not_eq_true', Bool.not_eq_false'] at b1))
 ·have b1' := b1
  simp only [decide_eq_false_iff_not] at b1'
  rw [if_pos b1'] at hU
  rw [hU]
  simp (disch := first|exact dis|fail) only [go_sem, simprocAttr, ↓EU_rg, b1]
  exact ⟨_, rfl, SL.nil, x1⟩
 ·have b1' := b1
  simp only [decide_eq_true_eq] at b1'
  rw [if_neg (by omega)] at hU
  simp (disch := first|exact dis|fail) only [go_sem, simprocAttr, ↓EU_rg, b1]
  ((repeat refine WPo_ob ?_); (first | refine WPo_cond (fun b2 => ?_) (fun b2 => ?_) | refine WPo_gard (fun b2 => ?_) (fun b2 => ?_) | refine WPo_gardT (fun b2 => ?_) (fun b2 => ?_)) <;> (try simp only [Bool.not_eq_true', Bool.not_eq_false'] at b2))
  ·have b2' := b2
   simp only [decide_eq_true_eq] at b2'
   rw [if_pos b2'] at hU
   simp (disch := first|exact dis|fail) only [go_sem, simprocAttr, ↓EU_rg, b2]
   repeat refine WPo_ob ?_
   refine (cget_ev l s h1 (hs.ext x1) (by omega)).mono ?_
   rintro ⟨v2, h2⟩ ⟨i2, rfl, o2, f2, x2⟩
   simp only at o2 f2 x2
   obtain ⟨a2, c2, rfl⟩ := o2.val
   unfold formV
   by_cases qe : (getR l).2.2.2 = 0
   ·rw [if_neg (by omega)] at hU
    rw [hU]
    rw [qe]
    simp (disch := first|exact dis|fail) only [go_sem, simprocAttr, ↓EU_rg, dec_t, dec_f]
    repeat refine WPo_ob ?_
    refine (eclone_ev l s _ (hs.ext (x1.trans (x2.push _))) (by omega)).mono ?_
    rintro ⟨v3, h3⟩ ⟨o3, f3, x3⟩
    simp only at o3 f3 x3
    simp (disch := first|exact dis|fail) only [go_sem, simprocAttr, ↓EU_rg]
    exact ⟨_, rfl, o3.sl, (x1.trans (x2.push _)).trans x3⟩
   ·rw [if_pos qe] at hU
    rw [hU]
    have hd : decide ((getR l).2.2.2 = 0) = false := decide_eq_false qe
    simp (disch := first|exact dis|fail) only [go_sem, simprocAttr, ↓EU_rg, hd]
    exact ⟨_, rfl, SL.nil, x1.trans (x2.push _)⟩
  ·have b2' := b2
   simp only [decide_eq_false_iff_not] at b2'
   rw [if_neg b2'] at hU
   subst hu
   by_cases hv1 : vv = 1
   ·subst hv1
    rw [if_neg (by omega)] at hU
    have hU : upR l = if b.length < 1 then (([], 8) : List UInt8 × Int) else match itemsV 1 (b.drop 1) with
     | none => ([], 8)
     | some its => if cgood (bN b 0) (-1) its then (sealN (encF (bN b 0) (-1) its), 0) else ([], 11) := hU
    by_cases hlen : b.length < 1
    ·have hd1 : decide (1 ≤ (b.length : Int)) = false := decide_eq_false (by omega)
     rw [if_pos hlen] at hU
     rw [hU]
     simp (disch := first|exact dis|fail) only [go_sem, simprocAttr, ↓EU_rg, dec_t, dec_f, b2, hd1]
     exact ⟨_, rfl, SL.nil, x1.push _⟩
    ·have hd1 : decide (1 ≤ (b.length : Int)) = true := decide_eq_true (by omega)
     rw [if_neg hlen] at hU
     obtain ⟨B, o, c, e, hB, r0⟩ := rd_byte su (i := 0) (by omega)
     cases e
     rw [Nat.add_zero] at r0
     have hw0 : wrapF .i64 (bN b 0 : Int) = bN b 0 := wrap64 (by have := bN_lt b 0; omega)
     have su' := su.ext ((Ext.refl h1).push (.cells [.int .i64 (-1), .slice none 0 1] 0))
     obtain ⟨u1, hu1, su1, bu1⟩ := cut_from fc_sl_37 su' .i64 1 1 rfl (by omega)
     simp (disch := first|exact dis|fail) only [go_sem, simprocAttr, ↓EU_rg, dec_t, dec_f, b2, hd1, r0, hw0, hu1]
     repeat refine WPo_ob ?_
     refine (items1_ev _ u1 _ su1 (by rw [List.length_drop]; omega)).mono ?_
     rintro ⟨r4, h4⟩
     cases hit : itemsV 1 (b.drop 1) with
     | none =>
      intro hr
      rw [hit] at hU
      simp only at hr
      obtain ⟨hr, x4⟩ := hr
      have hc4 : h4.get h1.next = .cells [.int .i64 (-1), .slice none 0 1] 0 := by rw [x4.old _ (by rw [next_push]; omega)]; exact get_push_new _ _
      have hn4 := x4.le
      rw [next_push] at hn4
      subst hr
      rw [hU]
      simp (disch := first|exact dis|fail) only [go_sem, simprocAttr, ↓EU_rg, dec_t, dec_f, hc4]
      exact ⟨_, rfl, SL.nil, (x1.trans ((Ext.push (Ext.refl h1) _).trans x4)).set _ _ x1.le⟩
     | some its =>
      intro hr
      rw [hit] at hU
      obtain ⟨v4, hr, o4, f4, x4⟩ := hr
      simp only at hr o4 x4
      subst hr
      have hc4 : h4.get h1.next = .cells [.int .i64 (-1), .slice none 0 1] 0 := by rw [x4.old _ (by rw [next_push]; omega)]; exact get_push_new _ _
      have hn4 := x4.le
      rw [next_push] at hn4 f4
      have o4' := o4.mod (Mod.set (S := fun j => j = h1.next) (Mod.refl _ _) h1.next (.cells [.int .i64 (-1), v4] 0) (fun _ => rfl)) (fun j hj q => by have := f4 j hj; omega)
      have hlit : its.length < 800000 := by
       unfold itemsV at hit
       split at hit
       ·cases hit
       ·cases hit
        rw [decVs_len]
        have := bN_lt (b.drop 1) 0
        omega
      have pc := cput_ev (bN b 0) (-1) its v4 _ o4'.sl hlit
      obtain ⟨a4, c4, rfl⟩ := o4.val
      unfold formV at pc
      simp (disch := first|exact dis|fail) only [go_sem, simprocAttr, ↓EU_rg, dec_t, dec_f, hc4]
      repeat refine WPo_ob ?_
      refine pc.mono ?_
      rintro ⟨v5, h5⟩ ⟨x5, k1, k2⟩
      simp only at x5 k1 k2
      have y5 : Ext h h5 := ((x1.trans ((Ext.push (Ext.refl h1) _).trans x4)).set _ _ x1.le).trans x5
      dsimp only at hU
      cases hcg : cgood (bN b 0) (-1) its with
      | false =>
       rw [hcg, if_neg (by simp)] at hU
       rw [hU, k1 hcg]
       simp (disch := first|exact dis|fail) only [go_sem, simprocAttr, ↓EU_rg, dec_t, dec_f]
       exact ⟨_, rfl, SL.nil, y5⟩
      | true =>
       obtain ⟨u5, rfl, ou5, fu5⟩ := k2 hcg
       rw [hcg, if_pos rfl] at hU
       rw [hU]
       simp (disch := first|exact dis|fail) only [go_sem, simprocAttr, ↓EU_rg, dec_t, dec_f]
       exact ⟨_, rfl, ou5.sl, y5⟩
   ·by_cases hv2 : vv = 2
    ·subst hv2
     rw [if_neg (by omega)] at hU
     have hU : upR l = if b.length < 3 then (([], 8) : List UInt8 × Int) else match itemsV 2 (b.drop 3) with
      | none => ([], 8)
      | some its => if cgood (bN b 0) (readN ((b.drop 1).take 2) - 1) its then (sealN (encF (bN b 0) (readN ((b.drop 1).take 2) - 1) its), 0) else ([], 11) := hU
     by_cases hlen : b.length < 1
     ·have hd1 : decide (1 ≤ (b.length : Int)) = false := decide_eq_false (by omega)
      rw [if_pos (by omega)] at hU
      rw [hU]
      simp (disch := first|exact dis|fail) only [go_sem, simprocAttr, ↓EU_rg, dec_t, dec_f, b2, hd1]
      exact ⟨_, rfl, SL.nil, x1.push _⟩
     ·have hd1 : decide (1 ≤ (b.length : Int)) = true := decide_eq_true (by omega)
      by_cases hlen3 : b.length < 3
      ·have hd3 : decide (3 ≤ (b.length : Int)) = false := decide_eq_false (by omega)
       rw [if_pos (by omega)] at hU
       rw [hU]
       simp (disch := first|exact dis|fail) only [go_sem, simprocAttr, ↓EU_rg, dec_t, dec_f, b2, hd1, hd3]
       exact ⟨_, rfl, SL.nil, x1.push _⟩
      ·have hd3 : decide (3 ≤ (b.length : Int)) = true := decide_eq_true (by omega)
       rw [if_neg hlen3] at hU
       obtain ⟨B, o, c, e, hB, r0⟩ := rd_byte su (i := 0) (by omega)
       cases e
       rw [Nat.add_zero] at r0
       have hw0 : wrapF .i64 (bN b 0 : Int) = bN b 0 := wrap64 (by have := bN_lt b 0; omega)
       have su' := su.ext ((Ext.refl h1).push (.cells [.int .i64 (-1), .slice none 0 1] 0))
       obtain ⟨u1, hu1, su1, bu1⟩ := cut_from fc_sl_37 su' .i64 1 1 rfl (by omega)
       simp (disch := first|exact dis|fail) only [go_sem, simprocAttr, ↓EU_rg, dec_t, dec_f, b2, hd1, hd3, r0, hw0, hu1]
       repeat refine WPo_ob ?_
       refine (read_ev _ u1 2 _ su1 (by rw [List.length_drop]; omega) (by decide) (by rw [List.length_drop]; omega)).mono ?_
       rintro _ ⟨u2, rfl, su2, bu2⟩
       rw [List.drop_drop] at su2
       have hcp := readN_pos (l := (b.drop 1).take 2) (by rw [List.length_take]; omega)
       have hcw : wrapF .i64 (readN ((b.drop 1).take 2) - 1) = readN ((b.drop 1).take 2) - 1 := wrap64 (by omega)
       generalize hcu : readN ((b.drop 1).take 2) - 1 = cur at *
       simp (disch := first|exact dis|fail) only [go_sem, simprocAttr, ↓EU_rg, dec_t, dec_f, hcu, hcw]
       repeat refine WPo_ob ?_
       have su3 : SL byteE 1 (h1.push (.cells [.int .i64 cur, .slice none 0 1] 0)) u2 (b.drop 3) := su2.modB (S := fun j => h1.next ≤ j) ⟨by rw [next_push, next_push]; exact Nat.le_refl _, fun j hj hs => by rw [get_push_old _ (by omega), get_push_old _ (by omega)]⟩ (fun j hj => by have := su.lt (bu1 j (bu2 j hj)); omega)
       refine (items2_ev _ u2 _ su3 (by rw [List.length_drop]; omega)).mono ?_
       rintro ⟨r4, h4⟩
       cases hit : itemsV 2 (b.drop 3) with
       | none =>
        intro hr
        rw [hit] at hU
        simp only at hr
        obtain ⟨hr, x4⟩ := hr
        have hc4 : h4.get h1.next = .cells [.int .i64 cur, .slice none 0 1] 0 := by rw [x4.old _ (by rw [next_push]; omega)]; exact get_push_new _ _
        have hn4 := x4.le
        rw [next_push] at hn4
        subst hr
        rw [hU]
        simp (disch := first|exact dis|fail) only [go_sem, simprocAttr, ↓EU_rg, dec_t, dec_f, hc4]
        exact ⟨_, rfl, SL.nil, (x1.trans ((Ext.push (Ext.refl h1) _).trans x4)).set _ _ x1.le⟩
       | some its =>
        intro hr
        rw [hit] at hU
        obtain ⟨v4, hr, o4, f4, x4⟩ := hr
        simp only at hr o4 x4
        subst hr
        have hc4 : h4.get h1.next = .cells [.int .i64 cur, .slice none 0 1] 0 := by rw [x4.old _ (by rw [next_push]; omega)]; exact get_push_new _ _
        have hn4 := x4.le
        rw [next_push] at hn4 f4
        have o4' := o4.mod (Mod.set (S := fun j => j = h1.next) (Mod.refl _ _) h1.next (.cells [.int .i64 cur, v4] 0) (fun _ => rfl)) (fun j hj q => by have := f4 j hj; omega)
        have hlit : its.length < 800000 := by
         unfold itemsV at hit
         split at hit
         ·cases hit
         ·cases hit
          rw [decVs_len]
          have := bN_lt (b.drop 3) 0
          omega
        have pc := cput_ev (bN b 0) cur its v4 _ o4'.sl hlit
        obtain ⟨a4, c4, rfl⟩ := o4.val
        unfold formV at pc
        simp (disch := first|exact dis|fail) only [go_sem, simprocAttr, ↓EU_rg, dec_t, dec_f, hc4]
        repeat refine WPo_ob ?_
        refine pc.mono ?_
        rintro ⟨v5, h5⟩ ⟨x5, k1, k2⟩
        simp only at x5 k1 k2
        have y5 : Ext h h5 := ((x1.trans ((Ext.push (Ext.refl h1) _).trans x4)).set _ _ x1.le).trans x5
        dsimp only at hU
        cases hcg : cgood (bN b 0) cur its with
        | false =>
         rw [hcg, if_neg (by simp)] at hU
         rw [hU, k1 hcg]
         simp (disch := first|exact dis|fail) only [go_sem, simprocAttr, ↓EU_rg, dec_t, dec_f]
         exact ⟨_, rfl, SL.nil, y5⟩
        | true =>
         obtain ⟨u5, rfl, ou5, fu5⟩ := k2 hcg
         rw [hcg, if_pos rfl] at hU
         rw [hU]
         simp (disch := first|exact dis|fail) only [go_sem, simprocAttr, ↓EU_rg, dec_t, dec_f]
         exact ⟨_, rfl, ou5.sl, y5⟩
    ·rw [if_pos ⟨hv1, hv2⟩] at hU
     rw [hU]
     have hd1 : decide (vv = 1) = false := decide_eq_false hv1
     have hd2 : decide (vv = 2) = false := decide_eq_false hv2
     simp (disch := first|exact dis|fail) only [go_sem, simprocAttr, ↓EU_rg, b2, hd1, hd2]
     exact ⟨_, rfl, SL.nil, x1⟩
theorem readR_good {l : List UInt8} (h : (readR l).2.2.2.2 = 0) : cgood (readR l).2.1 (readR l).2.2.1 (readR l).2.2.2.1 = true := by
 unfold readR at h ⊢
 cases ho : openN l with
 | none => rw [ho] at h; cases h
 | some p =>
  rw [ho] at h
  dsimp only at h ⊢
  cases hb : versionN p with
  | none => rw [hb] at h; cases h
  | some v =>
   rw [hb] at h
   dsimp only at h ⊢
   split
   ·rename_i q; rw [if_pos q] at h; cases h
   ·rename_i q
    rw [if_neg q] at h
    dsimp only at h ⊢
    unfold bodyV at h ⊢
    split
    ·rename_i q2; rw [if_pos q2] at h; cases h
    ·rename_i q2
     rw [if_neg q2] at h
     split
     ·rename_i q3
      simp only [Bool.and_eq_true, decide_eq_true_eq] at q3
      unfold cgood
      rw [decide_eq_true (by omega : (0 : Int) ≤ _), decide_eq_true (by omega : ((bN p 3 : Nat) : Int) ≤ 2), q3.2]; rfl
     ·rename_i q3; rw [if_neg q3] at h; cases h
theorem readR_err {l : List UInt8} (h : (readR l).2.2.2.2 ≠ 0) : (readR l).2.1 = 0 ∧ (readR l).2.2.1 = 0 ∧ (readR l).2.2.2.1 = [] := by
 unfold readR at h ⊢
 cases ho : openN l with
 | none => exact ⟨rfl, rfl, rfl⟩
 | some p =>
  rw [ho] at h
  dsimp only at h ⊢
  cases hb : versionN p with
  | none => exact ⟨rfl, rfl, rfl⟩
  | some v =>
   rw [hb] at h
   dsimp only at h ⊢
   split
   ·exact ⟨rfl, rfl, rfl⟩
   ·rename_i q
    rw [if_neg q] at h
    dsimp only at h ⊢
    unfold bodyV at h ⊢
    split
    ·exact ⟨rfl, rfl, rfl⟩
    ·rename_i q2
     rw [if_neg q2] at h
     split
     ·rename_i q3; rw [if_pos q3] at h; exact (h rfl).elim
     ·exact ⟨rfl, rfl, rfl⟩
theorem readR_get {l : List UInt8} (h : (readR l).2.2.2.2 = 0) (h3 : (readR l).1 = 3) : getR l = (readR l).2 := by
 rw [← getR_ref]
 unfold rgetR
 rw [if_neg (by rintro ⟨_, k, _⟩; exact k h3)]
theorem getR_up {l : List UInt8} (h : (readR l).2.2.2.2 = 0) : (upR l).2 = 0 ∧ getR (upR l).1 = (readR l).2 := by
 unfold upR
 rw [if_neg (by omega)]
 by_cases h3 : (readR l).1 = 3
 ·rw [if_pos h3]
  exact ⟨rfl, readR_get h h3⟩
 ·rw [if_neg h3]
  refine ⟨rfl, ?_⟩
  dsimp only
  rw [getR_enc (readR_good h), ← h]
theorem upR_err {l : List UInt8} (h : (readR l).2.2.2.2 ≠ 0) : upR l = ([], (readR l).2.2.2.2) := by
 unfold upR
 rw [if_pos h]
theorem upR_len (l : List UInt8) (hl : l.length < 600000) : (upR l).1.length < 700000 := by
 by_cases h : (readR l).2.2.2.2 = 0
 ·have hg := good_facts (cgood_facts (readR_good h)).2.2
  unfold upR
  rw [if_neg (by omega)]
  split
  ·dsimp only; omega
  ·dsimp only; rw [sealN_len, encF_len]; omega
 ·rw [upR_err h]; exact Nat.zero_lt_succ _
theorem eread_ev (l : List UInt8) (s : Value) (h : Heap) (hs : SL byteE 1 h s l) (hl : l.length < 600000) :
  WPo (EF Tryz.prog O0 76 [s] h) fun q => ∃ v, q.1 = .tuple ⟨[.int .i64 (readR l).2.1, formV (readR l).2.2.1 v, .int .i64 (readR l).2.2.2.2]⟩ ∧ OW itemE 3 q.2 v (readR l).2.2.2.1 ∧ Fresh h.next v ∧ Ext h q.2 := by
 rw [EF_body (O := O0) (by kernel_rfl) Tryz.func76 rfl (rs := [.tmp 2, .cell 3 24, .tmp 4]) rfl (bad := []) (by kernel_rfl) _ _ (m := 20) rfl]
 unfold formV
 simp (disch := first|exact dis|fail) only [go_sem, simprocAttr, ↓EU_rg]
 repeat refine WPo_ob ?_
 refine (up_ev l s _ (hs.ext ((Ext.refl h).push _)) hl).mono ?_
 rintro ⟨w, h1⟩ ⟨u, rfl, su, x1⟩
 simp only at su x1
 have hn1 := x1.le
 rw [next_push] at hn1
 have c0 : h1.get h.next = .cells [.int .i64 0, .slice none 0 1] 0 := by rw [x1.old _ (by rw [next_push]; omega)]; exact get_push_new _ _
 have y1 : Ext h h1 := ((Ext.refl h).push _).trans x1
 by_cases q : (readR l).2.2.2.2 = 0
 ·obtain ⟨k1, k2⟩ := getR_up q
  rw [k1]
  simp (disch := first|exact dis|fail) only [go_sem, simprocAttr, ↓EU_rg, dec_t, dec_f]
  repeat refine WPo_ob ?_
  refine (cget_ev _ u h1 su (upR_len l hl)).mono ?_
  rintro ⟨w2, h2⟩ ⟨v2, rfl, o2, f2, x2⟩
  simp only at o2 f2 x2
  rw [k2] at o2 ⊢
  have hn2 := x2.le
  have c0' : h2.get h.next = .cells [.int .i64 0, .slice none 0 1] 0 := by rw [x2.old _ (by omega)]; exact c0
  obtain ⟨a2, c2, rfl⟩ := o2.val
  unfold formV
  simp (disch := first|exact dis|fail) only [go_sem, simprocAttr, ↓EU_rg, dec_t, dec_f, c0']
  exact ⟨_, rfl, o2.mod (Mod.set (S := fun j => j = h.next) (Mod.refl _ _) _ _ (fun _ => rfl)) (fun j hj q => by have := f2 j hj; omega), f2.mono (by omega), (y1.trans x2).set _ _ (Nat.le_refl _)⟩
 ·have k := upR_err q
  obtain ⟨r1, r2, r3⟩ := readR_err q
  rw [k, r1, r2, r3]
  have hd : decide ((readR l).2.2.2.2 = 0) = false := decide_eq_false q
  simp (disch := first|exact dis|fail) only [go_sem, simprocAttr, ↓EU_rg, hd, c0]
  exact ⟨_, rfl, OW.nil, Fresh.nil _ _ _, y1.set _ _ (Nat.le_refl _)⟩
theorem idx_any {α : Type} {p : α → Bool} {l : List α} (h : l.any p = true) : ∃ (i : Nat) (x : α), idx p l = i ∧ l[i]? = some x ∧ l.find? p = some x := by
 unfold idx
 cases hf : l.findIdx? p with
 | none =>
  rw [List.findIdx?_eq_none_iff] at hf
  obtain ⟨x, hx, hp⟩ := List.any_eq_true.1 h
  rw [hf x hx] at hp; cases hp
 | some i =>
  obtain ⟨h1, h2, h3⟩ := List.findIdx?_eq_some_iff_getElem.1 hf
  exact ⟨i, l[i], rfl, List.getElem?_eq_getElem h1, by
   rw [List.find?_eq_some_iff_getElem]
   exact ⟨h2, i, h1, rfl, fun j hj => by simpa using h3 j hj⟩⟩
theorem find_none {α : Type} {p : α → Bool} {l : List α} (h : l.any p = false) : l.find? p = none := by
 rw [List.find?_eq_none]
 intro x hx
 have := List.any_eq_false.1 h x hx
 simpa using this
noncomputable def fndR (id : Int) (l : List Item) : Item := (l.find? (byId id)).getD ⟨0, 0, 0⟩
theorem ofind_ev (cur : Int) (l : List Item) (s : Value) (id : Int) (h : Heap) (hs : SL itemE 3 h s l) (hl : l.length < 900000) :
  Pu (EF Tryz.prog O0 85 [formV cur s, .int .i64 id] h) h (.tuple ⟨[.agg ⟨itemE (fndR id l)⟩, .bool (l.any (byId id))]⟩) := by
 unfold Pu formV
 rw [EF_body (O := O0) (by kernel_rfl) Tryz.func85 rfl (rs := [.cell 4 43, .tmp 5]) rfl (bad := []) (by kernel_rfl) _ _ (m := 18) rfl]
 obtain ⟨a, c, hv⟩ := hs.val
 subst hv
 simp (disch := first|exact dis|fail) only [go_sem, simprocAttr, ↓EU_rg]
 repeat refine WPo_ob ?_
 refine (find_ev cur l _ id _ (hs.ext (((Ext.refl h).push _).push _)) hl).mono ?_
 rintro ⟨v, h1⟩ ⟨rfl, x1⟩
 simp only at x1
 have y1 : Ext h h1 := (((Ext.refl h).push _).push _).trans x1
 have hn1 := x1.le
 simp only [next_push] at hn1
 have c0 : h1.get h.next = .cells [.int .i64 cur, .slice a l.length c] 0 := by simp (disch := first|exact dis|fail) only [go_sem, simprocAttr, ↓EU_rg, x1.old]
 have c1 : h1.get (h.next + 1) = .cells [.int .i64 0, .int .i64 0, .int .i64 0] 0 := by simp (disch := first|exact dis|fail) only [go_sem, simprocAttr, ↓EU_rg, x1.old]
 cases q : l.any (byId id) with
 | true =>
  obtain ⟨i, x, e1, e2, e3⟩ := idx_any q
  have hx : fndR id l = x := by unfold fndR; rw [e3]; rfl
  rw [e1, hx]
  obtain ⟨b, o, c', e, hb', hrd, hr⟩ := (hs.ext y1).at e2 rfl
  cases e
  have hn : decide ((i : Int) < 0) = false := decide_eq_false (by omega)
  have hil := (List.getElem?_eq_some_iff.1 e2).1
  simp (disch := first|exact dis|fail) only [go_sem, simprocAttr, ↓EU_rg, dec_t, dec_f, hn, c0, c1, hrd]
  exact ⟨trivial, y1.set _ _ (by omega)⟩
 | false =>
  have hx : fndR id l = ⟨0, 0, 0⟩ := by unfold fndR; rw [find_none q]; rfl
  rw [hx]
  have hn : decide (idx (byId id) l < 0) = true := by rw [idx_neg, q]; rfl
  simp (disch := first|exact dis|fail) only [go_sem, simprocAttr, ↓EU_rg, dec_t, dec_f, hn, c0, c1]
  exact ⟨rfl, y1.set _ _ (by omega)⟩

structure Flt where
 kind : Int
 id : Int
deriving DecidableEq
noncomputable def fltE (f : Flt) : List Value := [.int .i64 f.kind, .int .i64 f.id]
@[go_sem] theorem fltE_len (x : Flt) : (fltE x).length = 2 := (rfl)
@[go_sem] theorem fltE_scal (x : Flt) : (fltE x).all scal = true := (rfl)
noncomputable def chkE (c : Int × Bool) : List Value := [.int .i64 c.1, .bool c.2]
@[go_sem] theorem chkE_len (x : Int × Bool) : (chkE x).length = 2 := (rfl)
@[go_sem] theorem chkE_scal (x : Int × Bool) : (chkE x).all scal = true := (rfl)
noncomputable def flts (id : Int) (cs : List (Int × Bool)) : List Flt := (cs.filter (·.2)).map fun c => ⟨c.1, id⟩
noncomputable def lagBad (x : Item) : Bool := decide (x.lag < -1125899906842624) || decide (1125899906842624 < x.lag)
noncomputable def idBad (x : Item) : Bool := decide (x.id < 0) || decide (1073741824 < x.id)
noncomputable def ordBad (p : Option Item) (x : Item) : Bool := match p with
 | none => false
 | some y => decide (x.id ≤ y.id)
noncomputable def chks (p : Option Item) (x : Item) : List (Int × Bool) := [(1, idBad x), (2, ordBad p x), (3, !wgood x.w), (4, lagBad x)]
noncomputable def fGo : Option Item → List Item → List Flt
 | _, [] => []
 | p, x :: l => flts x.id (chks p x) ++ fGo (some x) l
noncomputable def neg (x : Item) : Bool := decide (x.lag < 0)
noncomputable def ifF (b : Bool) (f : Flt) : List Flt := if b then [f] else []
theorem ifF_len (b : Bool) (f : Flt) : (ifF b f).length ≤ 1 := by unfold ifF; split <;> simp
theorem ifF_t (f : Flt) : ifF true f = [f] := rfl
theorem ifF_f (f : Flt) : ifF false f = [] := rfl
noncomputable def formF (cur : Int) (l : List Item) : List Flt := ((fGo none l ++ ifF (decide (64 < (l.length : Int))) ⟨5, l.length⟩) ++ ifF (!l.any (byId cur) && !decide (cur = -1)) ⟨6, cur⟩) ++ ifF (decide ((l.length : Int) > 0) && l.all neg) ⟨7, -1⟩
theorem flts_len (id : Int) (cs : List (Int × Bool)) : (flts id cs).length ≤ cs.length := by
 unfold flts
 rw [List.length_map]
 exact List.length_filter_le _ _
theorem fGo_len : ∀ (p : Option Item) (l : List Item), (fGo p l).length ≤ 4 * l.length
 | _, [] => Nat.zero_le _
 | p, x :: l => by
  have h1 := flts_len x.id (chks p x)
  have h2 := fGo_len (some x) l
  have h3 : (chks p x).length = 4 := rfl
  simp only [fGo, List.length_append, List.length_cons]
  omega
theorem formF_len (cur : Int) (l : List Item) : (formF cur l).length ≤ 4 * l.length + 3 := by
 have := fGo_len none l
 have h1 := ifF_len (decide (64 < (l.length : Int))) ⟨5, l.length⟩
 have h2 := ifF_len (!l.any (byId cur) && !decide (cur = -1)) ⟨6, cur⟩
 have h3 := ifF_len (decide ((l.length : Int) > 0) && l.all neg) ⟨7, -1⟩
 unfold formF
 simp only [List.length_append]
 omega
theorem Fresh.gr {s v : Value} {a b : Heap} (g : Gr s a v b) (hs : ∀ i, ¬ blkOf s i) : Fresh a.next v := g.fresh (fun i hi => (hs i hi).elim) (Nat.le_refl _)
theorem nil_blk (n m : Nat) (i : Nat) : ¬ blkOf (.slice none n m) i := fun h => h.elim
set_option maxHeartbeats 1000000 in
theorem form_ev (cur : Int) (l : List Item) (s : Value) (h : Heap) (hs : SL itemE 3 h s l) (hl : l.length < 900000) :
  WPo (EF Tryz.prog O0 84 [formV cur s] h) fun q => OW fltE 2 q.2 q.1 (formF cur l) ∧ Fresh h.next q.1 ∧ Ext h q.2 := by
 rw [EF_body (O := O0) (by kernel_rfl) Tryz.func84 rfl (rs := [.tmp 2]) rfl (bad := [6]) (by kernel_rfl) _ _ (m := 123) rfl]
 obtain ⟨a, c, hv⟩ := hs.val
 subst hv
 unfold formV
 simp (disch := first|exact dis|fail) only [go_sem, simprocAttr, ↓EU_rg]
 repeat refine WPo_ob ?_
 generalize hh0 : h.push (.cells [.int .i64 cur, .slice a l.length c] 0) = h0
 have x0 : Ext h h0 := by rw [← hh0]; exact (Ext.refl h).push _
 have hF0 : h0.get h.next = .cells [.int .i64 cur, .slice a l.length c] 0 := by rw [← hh0]; exact get_push_new _ _
 have hn0 : h0.next = h.next + 1 := by rw [← hh0]; exact next_push _ _
 clear hh0
 refine (LP_rule (fun m st => ∃ (i : Nat) (tm : Fr) (h2 : Heap) (u : Value) (acc : List Flt), st = ⟨tm, h2, []⟩ ∧ m = l.length - i ∧ i ≤ l.length ∧ Fr.get tm 1 = ptr h.next 0 ∧ Fr.get tm 3 = u ∧ Fr.get tm 4 = .bool (decide ((l.length : Int) > 0) && (l.take i).all neg) ∧ Fr.get tm 16 = .slice a l.length c ∧ Fr.get tm 17 = .int .i64 l.length ∧ Fr.get tm 18 = .int .i64 i ∧ OW fltE 2 h2 u acc ∧ Gr (.slice none 0 1) h0 u h2 ∧ acc.length ≤ 4 * i ∧ fGo none l = acc ++ fGo (prevAt l i) (l.drop i))
  (fun q => ∃ tm h2 u, q.2 = ⟨tm, h2, []⟩ ∧ q.1 = .exit 0 ∧ Fr.get tm 1 = ptr h.next 0 ∧ Fr.get tm 3 = u ∧ Fr.get tm 4 = .bool (decide ((l.length : Int) > 0) && l.all neg) ∧ OW fltE 2 h2 u (fGo none l) ∧ Gr (.slice none 0 1) h0 u h2) ?_ l.length _ _ ?_ ?_).mono ?_
 ·rintro m _ ⟨i, tm, h2, u, acc, rfl, rfl, hi, g1, g3, g4, g16, g17, g18, hov, gr, hal, hgo⟩
  have hfv : Fresh (h.next + 1) u := by rw [← hn0]; exact Fresh.gr gr (nil_blk _ _)
  have x2 : Ext h h2 := x0.trans (gr.ext0 (Ext.refl _) (Fresh.nil _ _ _))
  have hF : h2.get h.next = .cells [.int .i64 cur, .slice a l.length c] 0 := (gr.old _ (by omega) (nil_blk _ _ _)).trans hF0
  have hn2 : h.next < h2.next := by have := gr.le; omega
  obtain ⟨av, kv, rfl⟩ := hov.val
  simp (disch := first|exact dis|fail) only [go_sem, simprocAttr, g1, g3, g4, g16, g17, g18]
  (first | rw [EU_region] | rw [EU_draw _ _ rfl]); simp (disch := first|exact dis|fail) only [go_sem, simprocAttr, g17, g18]
  ((repeat refine WPo_ob ?_); (first | refine WPo_cond (fun b1 => ?_) (fun b1 => ?_) | refine WPo_gard (fun b1 => ?_) (fun b1 => ?_) | refine WPo_gardT (fun b1 => ?_) (fun b1 => ?_)) <;> (try simp only [Bool.not_eq_true', Bool.not_eq_false'] at b1))
  ·have b1' := b1
   simp only [decide_eq_true_eq] at b1'
   have hi' : i < l.length := by omega
   obtain ⟨x, hx⟩ : ∃ x, l[i]? = some x := ⟨_, List.getElem?_eq_getElem hi'⟩
   obtain ⟨b, o, c', e, hb', hrd, hr⟩ := (hs.ext x2).at hx rfl
   cases e
   simp (disch := first|exact dis|fail) only [go_sem, simprocAttr, g1, g3, g4, g16, g17, g18, hrd]
   (first | rw [EU_region] | rw [EU_draw _ _ rfl]); simp (disch := first|exact dis|fail) only [go_sem, simprocAttr, g1, g3, g4, g16, g17, g18, hrd]
   repeat refine WPo_ob ?_
   refine WPo.mono (Q := fun q => ∃ tm' h3 B, q = (.normal, ⟨tm', h3, []⟩) ∧ Ext (h2.push (.cells (itemE x) 0)) h3 ∧ h2.next < B ∧ B < h3.next ∧ h3.get B = .cells ((chks (prevAt l i) x).flatMap chkE) 2 ∧ Fr.get tm' 1 = ptr h.next 0 ∧ Fr.get tm' 3 = .slice av acc.length kv ∧ Fr.get tm' 4 = .bool (decide ((l.length : Int) > 0) && (l.take i).all neg) ∧ Fr.get tm' 6 = ptr h2.next 0 ∧ Fr.get tm' 16 = .slice (some ⟨b, o, none⟩) l.length c ∧ Fr.get tm' 17 = .int .i64 l.length ∧ Fr.get tm' 18 = .int .i64 i ∧ Fr.get tm' 62 = .slice (some ⟨B, 0, none⟩) 4 9 ∧ Fr.get tm' 63 = .int .i64 4 ∧ Fr.get tm' 64 = .int .i64 0) ?_ ?_
   ·rw [EU_bad _ _ rfl, EC_tab (tab := [(false, none), (false, none), (false, none), (false, none), (false, none), (false, (some (0, 1))), (false, none), (false, none), (false, none), (false, none), (false, none), (false, none), (false, none), (false, (some (0, 1))), (false, none), (false, (some (0, 1))), (false, none), (false, none), (false, none), (false, none), (false, none), (false, (some (0, 1))), (false, none), (false, none), (false, none), (false, none), (false, none), (true, none), (false, none), (false, none), (false, none), (false, (some (0, 1))), (false, none), (false, none), (false, none), (false, none), (false, none), (false, none), (false, none), (true, none), (false, (some (1, 2))), (false, none)]) (by kernel_rfl)]
    rcases Nat.eq_zero_or_pos i with q0 | q0
    ·have hp : prevAt l i = none := by unfold prevAt; rw [if_pos q0]
     have hz : decide ((i : Int) > 0) = false := decide_eq_false (by omega)
     rw [hp]
     simp (disch := first|exact dis|fail) only [go_sem, simprocAttr, ↓EU_rg, g1, g3, g4, g16, g17, g18, hrd, wGood_ev, hz]
     repeat' (((repeat refine WPo_ob ?_); (first | refine WPo_cond (fun hb => ?_) (fun hb => ?_) | refine WPo_gard (fun hb => ?_) (fun hb => ?_) | refine WPo_gardT (fun hb => ?_) (fun hb => ?_)) <;> (try simp only [Bool.not_eq_true', Bool.not_eq_false'] at hb)) <;> (simp (disch := first|exact dis|fail) only [go_sem, simprocAttr, ↓EU_rg, hb, g1, g3, g4, g16, g17, g18, hrd, wGood_ev, hz]))
     all_goals exact ⟨_, _, h2.next + 1, rfl, by repeat (first | exact Ext.refl _ | assumption | refine Ext.push ?_ _ | refine Ext.set ?_ _ _ (by first | omega | (simp only [next_push, next_set]; omega))), by omega, by simp only [next_push]; omega, by simp (disch := first|exact dis|fail) only [go_sem, simprocAttr, ↓EU_rg]; simp [chks, chkE, idBad, lagBad, ordBad, *], by simp (disch := first|exact dis|fail) only [go_sem, simprocAttr, ↓EU_rg, g1], by simp (disch := first|exact dis|fail) only [go_sem, simprocAttr, ↓EU_rg, g3], by simp (disch := first|exact dis|fail) only [go_sem, simprocAttr, ↓EU_rg, g4], by simp (disch := first|exact dis|fail) only [go_sem, simprocAttr, ↓EU_rg], by simp (disch := first|exact dis|fail) only [go_sem, simprocAttr, ↓EU_rg, g16], by simp (disch := first|exact dis|fail) only [go_sem, simprocAttr, ↓EU_rg, g17], by simp (disch := first|exact dis|fail) only [go_sem, simprocAttr, ↓EU_rg, g18], by simp (disch := first|exact dis|fail) only [go_sem, simprocAttr, ↓EU_rg], by simp (disch := first|exact dis|fail) only [go_sem, simprocAttr, ↓EU_rg]; all_goals rfl, by simp (disch := first|exact dis|fail) only [go_sem, simprocAttr, ↓EU_rg]⟩
    ·obtain ⟨y, hy⟩ : ∃ y, l[i - 1]? = some y := ⟨_, List.getElem?_eq_getElem (by omega)⟩
     obtain ⟨_, _, _, e, _, _, hq⟩ := (hs.ext x2).at hy rfl
     cases e
     have hq0 := hq 0 _ rfl
     rw [add_z] at hq0
     have hp : prevAt l i = some y := by unfold prevAt; rw [if_neg (by omega), hy]
     have hz : decide ((i : Int) > 0) = true := decide_eq_true (by omega)
     have hmx : (if (0 : Int) > ((i - 1 : Nat) : Int) then (0 : Int) else ((i - 1 : Nat) : Int)) = ((i - 1 : Nat) : Int) := if_neg (by omega)
     rw [hp]
     have hw1 : wrapF .i64 ((i : Int) - 1) = ((i - 1 : Nat) : Int) := by rw [wrap64 (by omega)]; omega
     simp (disch := first|exact dis|fail) only [go_sem, simprocAttr, ↓EU_rg, g1, g3, g4, g16, g17, g18, hrd, wGood_ev, hz, hq0, hF, hw1, hmx]
     repeat' (((repeat refine WPo_ob ?_); (first | refine WPo_cond (fun hb => ?_) (fun hb => ?_) | refine WPo_gard (fun hb => ?_) (fun hb => ?_) | refine WPo_gardT (fun hb => ?_) (fun hb => ?_)) <;> (try simp only [Bool.not_eq_true', Bool.not_eq_false'] at hb)) <;> (simp (disch := first|exact dis|fail) only [go_sem, simprocAttr, ↓EU_rg, hb, g1, g3, g4, g16, g17, g18, hrd, wGood_ev, hz, hq0, hF, hw1, hmx]))
     all_goals exact ⟨_, _, h2.next + 1, rfl, by repeat (first | exact Ext.refl _ | assumption | refine Ext.push ?_ _ | refine Ext.set ?_ _ _ (by first | omega | (simp only [next_push, next_set]; omega))), by omega, by simp only [next_push]; omega, by simp (disch := first|exact dis|fail) only [go_sem, simprocAttr, ↓EU_rg]; simp [chks, chkE, idBad, lagBad, ordBad, *], by simp (disch := first|exact dis|fail) only [go_sem, simprocAttr, ↓EU_rg, g1], by simp (disch := first|exact dis|fail) only [go_sem, simprocAttr, ↓EU_rg, g3], by simp (disch := first|exact dis|fail) only [go_sem, simprocAttr, ↓EU_rg, g4], by simp (disch := first|exact dis|fail) only [go_sem, simprocAttr, ↓EU_rg], by simp (disch := first|exact dis|fail) only [go_sem, simprocAttr, ↓EU_rg, g16], by simp (disch := first|exact dis|fail) only [go_sem, simprocAttr, ↓EU_rg, g17], by simp (disch := first|exact dis|fail) only [go_sem, simprocAttr, ↓EU_rg, g18], by simp (disch := first|exact dis|fail) only [go_sem, simprocAttr, ↓EU_rg], by simp (disch := first|exact dis|fail) only [go_sem, simprocAttr, ↓EU_rg]; all_goals rfl, by simp (disch := first|exact dis|fail) only [go_sem, simprocAttr, ↓EU_rg]⟩
   ·clear g1 g3 g4 g16 g17 g18
    rintro _ ⟨tm', h3, B, rfl, x3, hB1, hB2, hB, k1, k3, k4, k6, k16, k17, k18, k62, k63, k64⟩
    have hn3 := x3.le
    simp only [next_push] at hn3
    have y3 : Ext h2 h3 := ((Ext.refl h2).push _).trans x3
    have hX3 : h3.get h2.next = .cells (itemE x) 0 := by rw [x3.old _ (by rw [next_push]; omega)]; exact get_push_new _ _
    have hgo2 : fGo none l = acc ++ (flts x.id (chks (prevAt l i) x) ++ fGo (some x) (l.drop (i + 1))) := by rw [hgo, drop_at hx]; rfl
    have sC : SL chkE 2 h3 (.slice (some ⟨B, 0, none⟩) 4 9) (chks (prevAt l i) x) := (OW.new (e := chkE) (l := chks (prevAt l i) x) (fun _ => rfl) hB2 hB rfl rfl).sl
    have hcl : (chks (prevAt l i) x).length = 4 := rfl
    generalize chks (prevAt l i) x = cs at *
    simp (disch := first|exact dis|fail) only [go_sem, simprocAttr, k1, k3, k4, k6, k16, k17, k18, k62, k63, k64]
    repeat refine WPo_ob ?_
    refine (LP_rule (fun m st => ∃ (k : Nat) (tm2 : Fr) (h4 : Heap) (u : Value) (ac2 : List Flt), st = ⟨tm2, h4, []⟩ ∧ m = 4 - k ∧ k ≤ 4 ∧ Fr.get tm2 1 = ptr h.next 0 ∧ Fr.get tm2 3 = u ∧ Fr.get tm2 4 = .bool (decide ((l.length : Int) > 0) && (l.take i).all neg) ∧ Fr.get tm2 6 = ptr h2.next 0 ∧ Fr.get tm2 16 = .slice (some ⟨b, o, none⟩) l.length c ∧ Fr.get tm2 17 = .int .i64 l.length ∧ Fr.get tm2 18 = .int .i64 i ∧ Fr.get tm2 62 = .slice (some ⟨B, 0, none⟩) 4 9 ∧ Fr.get tm2 63 = .int .i64 4 ∧ Fr.get tm2 64 = .int .i64 k ∧ OW fltE 2 h4 u ac2 ∧ ac2 = acc ++ flts x.id (cs.take k) ∧ Gr (.slice av acc.length kv) h3 u h4)
     (fun q => ∃ (tm2 : Fr) (h4 : Heap) (u : Value), q.2 = ⟨tm2, h4, []⟩ ∧ q.1 = .exit 2 ∧ Fr.get tm2 1 = ptr h.next 0 ∧ Fr.get tm2 3 = u ∧ Fr.get tm2 4 = .bool (decide ((l.length : Int) > 0) && (l.take i).all neg) ∧ Fr.get tm2 6 = ptr h2.next 0 ∧ Fr.get tm2 16 = .slice (some ⟨b, o, none⟩) l.length c ∧ Fr.get tm2 17 = .int .i64 l.length ∧ Fr.get tm2 18 = .int .i64 i ∧ OW fltE 2 h4 u (acc ++ flts x.id cs) ∧ Gr (.slice av acc.length kv) h3 u h4) ?_ 4 _ _ ?_ ?_).mono ?_
    ·clear k1 k3 k4 k6 k16 k17 k18 k62 k63 k64
     rintro m _ ⟨k, tm2, h4, u, ac2, rfl, rfl, hk, k1, k3, k4, k6, k16, k17, k18, k62, k63, k64, hov4, hac, gr4⟩
     have hn4 := gr4.le
     have hX4 : h4.get h2.next = .cells (itemE x) 0 := (gr4.old _ (by omega) (fun q => by have := hov.lt q; omega)).trans hX3
     have sC4 : SL chkE 2 h4 (.slice (some ⟨B, 0, none⟩) 4 9) cs := sC.modB gr4.mod (fun j hj q => by have := hov.lt q; cases hj; omega)
     have hfu : Fresh (h.next + 1) u := gr4.fresh hfv (by omega)
     have hul : ∀ j, blkOf u j → j < h2.next ∨ h3.next ≤ j := fun j hj => (gr4.src j hj).imp (fun q => hov.lt q) id
     obtain ⟨au, ku, rfl⟩ := hov4.val
     simp (disch := first|exact dis|fail) only [go_sem, simprocAttr, k1, k3, k4, k6, k16, k17, k18, k62, k63, k64]
     (first | rw [EU_region] | rw [EU_draw _ _ rfl]); simp (disch := first|exact dis|fail) only [go_sem, simprocAttr, k63, k64]
     ((repeat refine WPo_ob ?_); (first | refine WPo_cond (fun b2 => ?_) (fun b2 => ?_) | refine WPo_gard (fun b2 => ?_) (fun b2 => ?_) | refine WPo_gardT (fun b2 => ?_) (fun b2 => ?_)) <;> (try simp only [Bool.not_eq_true', Bool.not_eq_false'] at b2))
     ·have b2' := b2
      simp only [decide_eq_true_eq] at b2'
      have hk' : k < cs.length := by omega
      obtain ⟨kd, hkd⟩ : ∃ x, cs[k]? = some x := ⟨_, List.getElem?_eq_getElem hk'⟩
      obtain ⟨B', o', c', e, hb2, hrk, hrk1⟩ := sC4.at hkd rfl
      rw [hcl] at e
      cases e
      obtain ⟨kk, kb⟩ := kd
      have htk : cs.take (k + 1) = cs.take k ++ [(kk, kb)] := by rw [List.take_add_one, hkd]; rfl
      rw [Nat.zero_add] at hrk
      simp only [chkE] at hrk
      have hft : flts x.id (cs.take (k + 1)) = flts x.id (cs.take k) ++ (if kb then [⟨kk, x.id⟩] else []) := by rw [htk]; unfold flts; rw [List.filter_append, List.map_append]; cases kb <;> rfl
      have hfl := flts_len x.id (cs.take k)
      rw [List.length_take] at hfl
      simp (disch := first|exact dis|fail) only [go_sem, simprocAttr, ↓EU_rg, k1, k3, k4, k6, k16, k17, k18, k62, k63, k64, hrk, hX4]
      have hwk : wrapF .i64 ((k : Int) + 1) = ((k + 1 : Nat) : Int) := by rw [wrap64 (by omega)]; omega
      cases kb with
      | false =>
       simp (disch := first|exact dis|fail) only [go_sem, simprocAttr, ↓EU_rg, k1, k3, k4, k6, k16, k17, k18, k62, k63, k64, hX4, hwk]
       exact ⟨_, by omega, k + 1, _, _, _, ac2, rfl, rfl, by omega, by simp (disch := first|exact dis|fail) only [go_sem, simprocAttr, ↓EU_rg, k1], by simp (disch := first|exact dis|fail) only [go_sem, simprocAttr, ↓EU_rg, k3], by simp (disch := first|exact dis|fail) only [go_sem, simprocAttr, ↓EU_rg, k4], by simp (disch := first|exact dis|fail) only [go_sem, simprocAttr, ↓EU_rg, k6], by simp (disch := first|exact dis|fail) only [go_sem, simprocAttr, ↓EU_rg, k16], by simp (disch := first|exact dis|fail) only [go_sem, simprocAttr, ↓EU_rg, k17], by simp (disch := first|exact dis|fail) only [go_sem, simprocAttr, ↓EU_rg, k18], by simp (disch := first|exact dis|fail) only [go_sem, simprocAttr, ↓EU_rg, k62], by simp (disch := first|exact dis|fail) only [go_sem, simprocAttr, ↓EU_rg, k63], by simp (disch := first|exact dis|fail) only [go_sem, simprocAttr, ↓EU_rg], hov4.ext ((Ext.refl _).push _), by rw [hac, hft]; simp, gr4.push _⟩
      | true =>
       simp (disch := first|exact dis|fail) only [go_sem, simprocAttr, ↓EU_rg, k1, k3, k4, k6, k16, k17, k18, k62, k63, k64, hX4, hwk]
       repeat refine WPo_ob ?_
       have hlit := OW.lit fltE_len (h4.push (.cells [.int .i64 kk, .bool true] 0)) [(⟨kk, x.id⟩ : Flt)]
       rw [List.flatMap_cons, List.flatMap_nil, List.append_nil] at hlit
       unfold fltE at hlit
       refine append_gr (l := ac2) (l' := [(⟨kk, x.id⟩ : Flt)]) fc_ap_122_122 fltE_len (by decide) fltE_scal (hov4.ext (((Ext.refl h4).push _).push _)) hlit.sl (by rw [hac, List.length_append]; simp only [List.length_cons, List.length_nil]; omega) (by rw [hac, List.length_append]; simp only [List.length_cons, List.length_nil]; omega) fun v' h5 hov5 gr5 => ?_
       have hac' : ac2 ++ [(⟨kk, x.id⟩ : Flt)] = acc ++ flts x.id (cs.take (k + 1)) := by rw [hac, hft]; simp
       simp (disch := first|exact dis|fail) only [go_sem, simprocAttr, ↓EU_rg, k1, k3, k4, k6, k16, k17, k18, k62, k63, k64, hwk]
       exact ⟨_, by omega, k + 1, _, _, _, _, rfl, rfl, by omega, by simp (disch := first|exact dis|fail) only [go_sem, simprocAttr, ↓EU_rg, k1], by simp (disch := first|exact dis|fail) only [go_sem, simprocAttr, ↓EU_rg], by simp (disch := first|exact dis|fail) only [go_sem, simprocAttr, ↓EU_rg, k4], by simp (disch := first|exact dis|fail) only [go_sem, simprocAttr, ↓EU_rg, k6], by simp (disch := first|exact dis|fail) only [go_sem, simprocAttr, ↓EU_rg, k16], by simp (disch := first|exact dis|fail) only [go_sem, simprocAttr, ↓EU_rg, k17], by simp (disch := first|exact dis|fail) only [go_sem, simprocAttr, ↓EU_rg, k18], by simp (disch := first|exact dis|fail) only [go_sem, simprocAttr, ↓EU_rg, k62], by simp (disch := first|exact dis|fail) only [go_sem, simprocAttr, ↓EU_rg, k63], by simp (disch := first|exact dis|fail) only [go_sem, simprocAttr, ↓EU_rg], hov5, hac', ((gr4.push _).push _).trans gr5⟩
     ·simp only [decide_eq_false_iff_not] at b2
      have : k = 4 := by omega
      subst this
      rw [List.take_of_length_le (by omega)] at hac
      subst hac
      simp (disch := first|exact dis|fail) only [go_sem, simprocAttr, ↓EU_rg]
      exact ⟨_, _, _, rfl, trivial, by simp (disch := first|exact dis|fail) only [go_sem, simprocAttr, ↓EU_rg, k1], by simp (disch := first|exact dis|fail) only [go_sem, simprocAttr, ↓EU_rg, k3], by simp (disch := first|exact dis|fail) only [go_sem, simprocAttr, ↓EU_rg, k4], by simp (disch := first|exact dis|fail) only [go_sem, simprocAttr, ↓EU_rg, k6], by simp (disch := first|exact dis|fail) only [go_sem, simprocAttr, ↓EU_rg, k16], by simp (disch := first|exact dis|fail) only [go_sem, simprocAttr, ↓EU_rg, k17], by simp (disch := first|exact dis|fail) only [go_sem, simprocAttr, ↓EU_rg, k18], hov4, gr4⟩
    ·exact ⟨0, _, _, _, acc, rfl, rfl, by omega, by simp (disch := first|exact dis|fail) only [go_sem, simprocAttr, ↓EU_rg, k1], by simp (disch := first|exact dis|fail) only [go_sem, simprocAttr, ↓EU_rg, k3], by simp (disch := first|exact dis|fail) only [go_sem, simprocAttr, ↓EU_rg, k4], by simp (disch := first|exact dis|fail) only [go_sem, simprocAttr, ↓EU_rg, k6], by simp (disch := first|exact dis|fail) only [go_sem, simprocAttr, ↓EU_rg, k16], by simp (disch := first|exact dis|fail) only [go_sem, simprocAttr, ↓EU_rg, k17], by simp (disch := first|exact dis|fail) only [go_sem, simprocAttr, ↓EU_rg, k18], by simp (disch := first|exact dis|fail) only [go_sem, simprocAttr, ↓EU_rg, k62], by simp (disch := first|exact dis|fail) only [go_sem, simprocAttr, ↓EU_rg, k63], by simp (disch := first|exact dis|fail) only [go_sem, simprocAttr, ↓EU_rg, k64]; all_goals rfl, hov.ext y3, by simp [flts], Gr.refl _ _⟩
    ·omega
    ·clear k1 k3 k4 k6 k16 k17 k18 k62 k63 k64
     rintro ⟨q, _⟩ ⟨tm2, h4, u, rfl, rfl, k1, k3, k4, k6, k16, k17, k18, hov4, gr4⟩
     have hn4 := gr4.le
     have hX4 : h4.get h2.next = .cells (itemE x) 0 := (gr4.old _ (by omega) (fun q => by have := hov.lt q; omega)).trans hX3
     obtain ⟨au, ku, rfl⟩ := hov4.val
     have hgr : Gr (.slice none 0 1) h0 (.slice au (acc ++ flts x.id cs).length ku) h4 := (gr.ext y3).trans gr4
     have hpr : prevAt l (i + 1) = some x := by unfold prevAt; rw [if_neg (by omega), Nat.add_sub_cancel, hx]
     have hfl := flts_len x.id cs
     have hta : (l.take (i + 1)).all neg = ((l.take i).all neg && neg x) := by rw [List.take_add_one, hx]; simp
     have hwi : wrapF .i64 ((i : Int) + 1) = ((i + 1 : Nat) : Int) := by rw [wrap64 (by omega)]; omega
     have hg : decide (x.lag < 0) = neg x := rfl
     simp (disch := first|exact dis|fail) only [go_sem, simprocAttr, ↓EU_rg, k1, k3, k4, k6, k16, k17, k18, hX4, hwi]
     repeat' (((repeat refine WPo_ob ?_); (first | refine WPo_cond (fun hb => ?_) (fun hb => ?_) | refine WPo_gard (fun hb => ?_) (fun hb => ?_) | refine WPo_gardT (fun hb => ?_) (fun hb => ?_)) <;> (try simp only [Bool.not_eq_true', Bool.not_eq_false'] at hb)) <;> (simp (disch := first|exact dis|fail) only [go_sem, simprocAttr, ↓EU_rg, hb, k1, k3, k4, k6, k16, k17, k18, hX4, hwi]))
     all_goals exact ⟨_, by omega, i + 1, _, _, _, acc ++ flts x.id cs, rfl, rfl, by omega, by simp (disch := first|exact dis|fail) only [go_sem, simprocAttr, ↓EU_rg, k1], by simp (disch := first|exact dis|fail) only [go_sem, simprocAttr, ↓EU_rg, k3], by simp (disch := first|exact dis|fail) only [go_sem, simprocAttr, ↓EU_rg]; rw [hta, ← Bool.and_assoc, hb]; rfl, by simp (disch := first|exact dis|fail) only [go_sem, simprocAttr, ↓EU_rg, k16], by simp (disch := first|exact dis|fail) only [go_sem, simprocAttr, ↓EU_rg, k17], by simp (disch := first|exact dis|fail) only [go_sem, simprocAttr, ↓EU_rg], hov4, hgr, by rw [List.length_append]; omega, by rw [hgo2, hpr, List.append_assoc]⟩
  ·simp only [decide_eq_false_iff_not] at b1
   have : i = l.length := by omega
   subst this
   rw [List.take_length] at g4
   have he : fGo none l = acc := by
    rw [hgo, List.drop_length]
    cases prevAt l l.length <;> simp [fGo]
   subst he
   simp (disch := first|exact dis|fail) only [go_sem, simprocAttr, ↓EU_rg]
   exact ⟨_, _, _, rfl, trivial, by simp (disch := first|exact dis|fail) only [go_sem, simprocAttr, ↓EU_rg, g1], by simp (disch := first|exact dis|fail) only [go_sem, simprocAttr, ↓EU_rg, g3], by simp (disch := first|exact dis|fail) only [go_sem, simprocAttr, ↓EU_rg, g4], hov, gr⟩
 ·exact ⟨0, _, _, _, [], rfl, rfl, by omega, by simp (disch := first|exact dis|fail) only [go_sem, simprocAttr, ↓EU_rg], by simp (disch := first|exact dis|fail) only [go_sem, simprocAttr, ↓EU_rg], by simp (disch := first|exact dis|fail) only [go_sem, simprocAttr, ↓EU_rg]; simp, by simp (disch := first|exact dis|fail) only [go_sem, simprocAttr, ↓EU_rg], by simp (disch := first|exact dis|fail) only [go_sem, simprocAttr, ↓EU_rg], by simp (disch := first|exact dis|fail) only [go_sem, simprocAttr, ↓EU_rg]; all_goals rfl, OW.nil, Gr.refl _ _, by simp, rfl⟩
 ·omega
 ·rintro ⟨q, _⟩ ⟨tm, h2, u, rfl, rfl, g1, g3, g4, hov, gr⟩
  have hfv : Fresh (h.next + 1) u := by rw [← hn0]; exact Fresh.gr gr (nil_blk _ _)
  have x2 : Ext h h2 := x0.trans (gr.ext0 (Ext.refl _) (Fresh.nil _ _ _))
  have hF : h2.get h.next = .cells [.int .i64 cur, .slice a l.length c] 0 := (gr.old _ (by omega) (nil_blk _ _ _)).trans hF0
  have hn2 : h.next < h2.next := by have := gr.le; omega
  have hgl := fGo_len none l
  obtain ⟨av, kv, rfl⟩ := hov.val
  simp (disch := first|exact dis|fail) only [go_sem, simprocAttr, ↓EU_rg, g1, g3, g4, hF]
  repeat refine WPo_ob ?_
  refine WPo.mono (Q := fun q => ∃ tm' h3 u3, q = (.normal, ⟨tm', h3, []⟩) ∧ OW fltE 2 h3 u3 (fGo none l ++ ifF (decide (64 < (l.length : Int))) ⟨5, l.length⟩) ∧ Gr (.slice none 0 1) h0 u3 h3 ∧ Fr.get tm' 1 = ptr h.next 0 ∧ Fr.get tm' 3 = u3 ∧ Fr.get tm' 4 = .bool (decide ((l.length : Int) > 0) && l.all neg)) ?_ ?_
  ·((repeat refine WPo_ob ?_); (first | refine WPo_cond (fun b1 => ?_) (fun b1 => ?_) | refine WPo_gard (fun b1 => ?_) (fun b1 => ?_) | refine WPo_gardT (fun b1 => ?_) (fun b1 => ?_)) <;> (try simp only [Bool.not_eq_true', Bool.not_eq_false'] at b1))
   ·simp (disch := first|exact dis|fail) only [go_sem, simprocAttr, ↓EU_rg, b1, g1, g3, g4, hF]
    rw [ifF_t]
    repeat refine WPo_ob ?_
    have hlit := OW.lit fltE_len h2 [(⟨5, l.length⟩ : Flt)]
    rw [List.flatMap_cons, List.flatMap_nil, List.append_nil] at hlit
    unfold fltE at hlit
    refine append_gr (l := fGo none l) (l' := [(⟨5, l.length⟩ : Flt)]) fc_ap_122_122 fltE_len (by decide) fltE_scal (hov.ext ((Ext.refl h2).push _)) hlit.sl (by simp only [List.length_append, List.length_cons, List.length_nil]; omega) (by simp only [List.length_append, List.length_cons, List.length_nil]; omega) fun v' h5 hov5 gr5 => ?_
    simp (disch := first|exact dis|fail) only [go_sem, simprocAttr, ↓EU_rg, b1, g1, g3, g4, hF]
    exact ⟨_, _, _, rfl, hov5, (gr.push _).trans gr5, by simp (disch := first|exact dis|fail) only [go_sem, simprocAttr, ↓EU_rg, g1], by simp (disch := first|exact dis|fail) only [go_sem, simprocAttr, ↓EU_rg], by simp (disch := first|exact dis|fail) only [go_sem, simprocAttr, ↓EU_rg, g4]⟩
   ·simp (disch := first|exact dis|fail) only [go_sem, simprocAttr, ↓EU_rg, b1]
    rw [ifF_f]
    exact ⟨_, _, _, rfl, by rw [List.append_nil]; exact hov, gr, by simp (disch := first|exact dis|fail) only [go_sem, simprocAttr, ↓EU_rg, g1], by simp (disch := first|exact dis|fail) only [go_sem, simprocAttr, ↓EU_rg, g3], by simp (disch := first|exact dis|fail) only [go_sem, simprocAttr, ↓EU_rg, g4]⟩
  ·clear g1 g3 g4 x2 hF hn2 hfv
   have hl5 := ifF_len (decide (64 < (l.length : Int))) ⟨5, l.length⟩
   generalize hA : fGo none l ++ ifF (decide (64 < (l.length : Int))) ⟨5, l.length⟩ = A5
   have hA5 : A5.length ≤ 4 * l.length + 1 := by rw [← hA, List.length_append]; omega
   rintro _ ⟨tm', h3, u3, rfl, hov3, gr3, g1, g3, g4⟩
   have hfv : Fresh (h.next + 1) u3 := by rw [← hn0]; exact Fresh.gr gr3 (nil_blk _ _)
   have x3 : Ext h h3 := x0.trans (gr3.ext0 (Ext.refl _) (Fresh.nil _ _ _))
   have hF : h3.get h.next = .cells [.int .i64 cur, .slice a l.length c] 0 := (gr3.old _ (by omega) (nil_blk _ _ _)).trans hF0
   have hn3 : h.next < h3.next := by have := gr3.le; omega
   obtain ⟨av3, kv3, rfl⟩ := hov3.val
   have hfd := ofind_ev cur l (.slice a l.length c) cur h3 (hs.ext x3) hl
   unfold formV at hfd
   simp (disch := first|exact dis|fail) only [go_sem, simprocAttr, ↓EU_rg, g1, g3, g4, hF]
   repeat refine WPo_ob ?_
   refine hfd.bind fun h4 x4 => ?_
   have hn4 := x4.le
   have hF4 : h4.get h.next = .cells [.int .i64 cur, .slice a l.length c] 0 := (x4.old _ hn3).trans hF
   have hov4 := hov3.ext x4
   have gr4 := gr3.ext x4
   clear hF hov3 gr3
   simp (disch := first|exact dis|fail) only [go_sem, simprocAttr, ↓EU_rg, g1, g3, g4, hF4]
   refine WPo.mono (Q := fun q => ∃ tm' h5 u5, q = (.normal, ⟨tm', h5, []⟩) ∧ OW fltE 2 h5 u5 (A5 ++ ifF (!l.any (byId cur) && !decide (cur = -1)) ⟨6, cur⟩) ∧ Gr (.slice none 0 1) h0 u5 h5 ∧ Fr.get tm' 3 = u5 ∧ Fr.get tm' 4 = .bool (decide ((l.length : Int) > 0) && l.all neg)) ?_ ?_
   ·cases hq : l.any (byId cur) with
    | true =>
     simp (disch := first|exact dis|fail) only [go_sem, simprocAttr, ↓EU_rg, g1, g3, g4, hF4]
     exact ⟨_, _, _, rfl, by rw [ifF_f, List.append_nil]; exact hov4.ext ((Ext.refl _).push _), gr4.push _, by simp (disch := first|exact dis|fail) only [go_sem, simprocAttr, ↓EU_rg, g3], by simp (disch := first|exact dis|fail) only [go_sem, simprocAttr, ↓EU_rg, g4]⟩
    | false =>
     simp (disch := first|exact dis|fail) only [go_sem, simprocAttr, ↓EU_rg, g1, g3, g4, hF4]
     ((repeat refine WPo_ob ?_); (first | refine WPo_cond (fun b2 => ?_) (fun b2 => ?_) | refine WPo_gard (fun b2 => ?_) (fun b2 => ?_) | refine WPo_gardT (fun b2 => ?_) (fun b2 => ?_)) <;> (try simp only [Bool.not_eq_true', Bool.not_eq_false'] at b2))
     ·simp (disch := first|exact dis|fail) only [go_sem, simprocAttr, ↓EU_rg, b2, g1, g3, g4, hF4]
      rw [ifF_t]
      have hov4p := hov4.ext ((Ext.refl h4).push (.cells (itemE (fndR cur l)) 0))
      repeat refine WPo_ob ?_
      have hlit := OW.lit fltE_len (h4.push (.cells (itemE (fndR cur l)) 0)) [(⟨6, cur⟩ : Flt)]
      rw [List.flatMap_cons, List.flatMap_nil, List.append_nil] at hlit
      unfold fltE at hlit
      refine append_gr (l := A5) (l' := [(⟨6, cur⟩ : Flt)]) fc_ap_122_122 fltE_len (by decide) fltE_scal (hov4p.ext ((Ext.refl (h4.push (.cells (itemE (fndR cur l)) 0))).push _)) hlit.sl (by simp only [List.length_append, List.length_cons, List.length_nil]; omega) (by simp only [List.length_append, List.length_cons, List.length_nil]; omega) fun v' h5 hov5 gr5 => ?_
      simp (disch := first|exact dis|fail) only [go_sem, simprocAttr, ↓EU_rg, b2, g1, g3, g4, hF4]
      exact ⟨_, _, _, rfl, hov5, ((gr4.push _).push _).trans gr5, by simp (disch := first|exact dis|fail) only [go_sem, simprocAttr, ↓EU_rg], by simp (disch := first|exact dis|fail) only [go_sem, simprocAttr, ↓EU_rg, g4]⟩
     ·simp (disch := first|exact dis|fail) only [go_sem, simprocAttr, ↓EU_rg, b2]
      rw [ifF_f]
      exact ⟨_, _, _, rfl, by rw [List.append_nil]; exact hov4.ext ((Ext.refl _).push _), gr4.push _, by simp (disch := first|exact dis|fail) only [go_sem, simprocAttr, ↓EU_rg, g3], by simp (disch := first|exact dis|fail) only [go_sem, simprocAttr, ↓EU_rg, g4]⟩
   ·clear g1 g3 g4 hfd hF4
    have hl6 := ifF_len (!l.any (byId cur) && !decide (cur = -1)) ⟨6, cur⟩
    generalize hB : A5 ++ ifF (!l.any (byId cur) && !decide (cur = -1)) ⟨6, cur⟩ = A6
    have hA6 : A6.length ≤ 4 * l.length + 2 := by rw [← hB, List.length_append]; omega
    have hfin : formF cur l = A6 ++ ifF (decide ((l.length : Int) > 0) && l.all neg) ⟨7, -1⟩ := by rw [← hB, ← hA]; rfl
    rintro _ ⟨tm5, h6, u6, rfl, hov6, gr6, g3, g4⟩
    rw [hfin]
    obtain ⟨av6, kv6, rfl⟩ := hov6.val
    simp (disch := first|exact dis|fail) only [go_sem, simprocAttr, ↓EU_rg, g3, g4]
    ((repeat refine WPo_ob ?_); (first | refine WPo_cond (fun b3 => ?_) (fun b3 => ?_) | refine WPo_gard (fun b3 => ?_) (fun b3 => ?_) | refine WPo_gardT (fun b3 => ?_) (fun b3 => ?_)) <;> (try simp only [Bool.not_eq_true', Bool.not_eq_false'] at b3))
    ·simp (disch := first|exact dis|fail) only [go_sem, simprocAttr, ↓EU_rg, b3, g3]
     rw [ifF_t]
     repeat refine WPo_ob ?_
     have hlit := OW.lit fltE_len h6 [(⟨7, -1⟩ : Flt)]
     rw [List.flatMap_cons, List.flatMap_nil, List.append_nil] at hlit
     unfold fltE at hlit
     refine append_gr (l := A6) (l' := [(⟨7, -1⟩ : Flt)]) fc_ap_122_122 fltE_len (by decide) fltE_scal (hov6.ext ((Ext.refl h6).push _)) hlit.sl (by simp only [List.length_append, List.length_cons, List.length_nil]; omega) (by simp only [List.length_append, List.length_cons, List.length_nil]; omega) fun v' h5 hov5 gr5 => ?_
     have grf := (gr6.push _).trans gr5
     obtain ⟨av7, kv7, rfl⟩ := hov5.val
     simp (disch := first|exact dis|fail) only [go_sem, simprocAttr, ↓EU_rg, b3]
     exact ⟨hov5, by have := Fresh.gr grf (nil_blk _ _); rw [hn0] at this; exact this.mono (by omega), x0.trans (grf.ext0 (Ext.refl _) (Fresh.nil _ _ _))⟩
    ·simp (disch := first|exact dis|fail) only [go_sem, simprocAttr, ↓EU_rg, b3, g3]
     rw [ifF_f, List.append_nil]
     exact ⟨hov6, by have := Fresh.gr gr6 (nil_blk _ _); rw [hn0] at this; exact this.mono (by omega), x0.trans (gr6.ext0 (Ext.refl _) (Fresh.nil _ _ _))⟩
end Go.Proofs.YtddgcakiceodgaaGreat.EV
