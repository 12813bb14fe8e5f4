/- CheckSays, plainly. No condition. -/
import Derived.Test.YtggidmjgadlolaaDoorRfl3
import Derived.Test.YtggidmjgadlolaaDoorChk5
import Derived.Test.YtggidmjgadlolaaDoorRowFlt
namespace Go.Proofs.YtggidmjgadlolaaDoor.EV
open Go Go.Proofs
set_option linter.unusedVariables false
set_option linter.unusedSimpArgs false
set_option maxRecDepth 100000
set_option pp.deepTerms false
set_option pp.deepTerms.threshold 20
set_option maxHeartbeats 4000000 in
theorem law_CheckSays (h : Heap) (cf : Int) (wf : (Lit.int .i64 cf).wf = true) (sf : Value) (lf : List Item) (hf : SL itemE 3 h sf lf) (wlf : ∀ z ∈ lf, ItemWf z) (cg : Int) (wg : (Lit.int .i64 cg).wf = true) (sg : Value) (lg : List Item) (hg : SL itemE 3 h sg lg) (wlg : ∀ z ∈ lg, ItemWf z) (sl : Value) (ll : List Flt) (hl : SL fltE 2 h sl ll) (wll : ∀ z ∈ ll, FltWf z) :
    WPo (EF Tryd.prog O0 4 [formV cf sf, formV cg sg, sl] h) fun q => q.1 = .bool true := by
  rw [EF_body (O := O0) (by kernel_rfl) Tryd.func4 rfl (rs := [.tmp 6]) rfl (bad := [10]) (by kernel_rfl) _ _ (m := 70) rfl]
  obtain ⟨af, kf, hv⟩ := hf.val
  subst hv
  obtain ⟨ag, kg, hv⟩ := hg.val
  subst hv
  obtain ⟨al, kl, hv⟩ := hl.val
  subst hv
  unfold formV
  simp (maxSteps := 1000000) (disch := first | decide | omega | (simp only [go_sem]; first | done | omega)) only [go_sem, Int.reduceToNat, Nat.reduceMul, Nat.reduceAdd, Nat.reduceSub, ↓EU_region, ↓EU_draw, awake_ev]
  ((repeat refine WPo_ob ?_); (first | refine WPo_cond (fun b1 => ?_) (fun b1 => ?_) | refine WPo_gard (fun b1 => ?_) (fun b1 => ?_) | refine WPo_gardT (fun b1 => ?_) (fun b1 => ?_)) <;> (try simp only [Bool.not_eq_true', Bool.not_eq_false'] at b1))
  · have b1' := b1
    simp only [decide_eq_false_iff_not] at b1'
    simp (maxSteps := 1000000) (disch := first | decide | omega | (simp only [go_sem]; first | done | omega)) only [go_sem, Int.reduceToNat, Nat.reduceMul, Nat.reduceAdd, Nat.reduceSub, ↓EU_region, ↓EU_draw, b1]
    ((repeat refine WPo_ob ?_); (first | refine WPo_cond (fun b2 => ?_) (fun b2 => ?_) | refine WPo_gard (fun b2 => ?_) (fun b2 => ?_) | refine WPo_gardT (fun b2 => ?_) (fun b2 => ?_)) <;> (try simp only [Bool.not_eq_true', Bool.not_eq_false'] at b2))
    · have b2' := b2
      simp only [decide_eq_false_iff_not] at b2'
      simp (maxSteps := 1000000) (disch := first | decide | omega | (simp only [go_sem]; first | done | omega)) only [go_sem, Int.reduceToNat, Nat.reduceMul, Nat.reduceAdd, Nat.reduceSub, ↓EU_region, ↓EU_draw, b1, b2]
      ((repeat refine WPo_ob ?_); (first | refine WPo_cond (fun b3 => ?_) (fun b3 => ?_) | refine WPo_gard (fun b3 => ?_) (fun b3 => ?_) | refine WPo_gardT (fun b3 => ?_) (fun b3 => ?_)) <;> (try simp only [Bool.not_eq_true', Bool.not_eq_false'] at b3))
      · simp (maxSteps := 1000000) (disch := first | decide | omega | (simp only [go_sem]; first | done | omega)) only [go_sem, Int.reduceToNat, Nat.reduceMul, Nat.reduceAdd, Nat.reduceSub, ↓EU_region, ↓EU_draw, b3]
      · have b3' := b3
        simp only [decide_eq_false_iff_not] at b3'
        simp (maxSteps := 1000000) (disch := first | decide | omega | (simp only [go_sem]; first | done | omega)) only [go_sem, Int.reduceToNat, Nat.reduceMul, Nat.reduceAdd, Nat.reduceSub, ↓EU_region, ↓EU_draw, b3]
        have x0 : Ext h ((h.push (.cells [.int .i64 cf, .slice af lf.length kf] 0)).push (.cells [.int .i64 cg, .slice ag lg.length kg] 0)) := ((Ext.refl h).push _).push _
        have o1z : ((h.push (.cells [.int .i64 cf, .slice af lf.length kf] 0)).push (.cells [.int .i64 cg, .slice ag lg.length kg] 0)).get h.next = .cells [.int .i64 cf, .slice af lf.length kf] 0 := by simp (maxSteps := 1000000) (disch := first | decide | omega | (simp only [go_sem]; first | done | omega)) only [go_sem, Int.reduceToNat, Nat.reduceMul, Nat.reduceAdd, Nat.reduceSub, ↓EU_region, ↓EU_draw]
        have o2z : ((h.push (.cells [.int .i64 cf, .slice af lf.length kf] 0)).push (.cells [.int .i64 cg, .slice ag lg.length kg] 0)).get (h.next + 1) = .cells [.int .i64 cg, .slice ag lg.length kg] 0 := by simp (maxSteps := 1000000) (disch := first | decide | omega | (simp only [go_sem]; first | done | omega)) only [go_sem, Int.reduceToNat, Nat.reduceMul, Nat.reduceAdd, Nat.reduceSub, ↓EU_region, ↓EU_draw]
        have n0 : ((h.push (.cells [.int .i64 cf, .slice af lf.length kf] 0)).push (.cells [.int .i64 cg, .slice ag lg.length kg] 0)).next = h.next + 1 + 1 := by simp (maxSteps := 1000000) (disch := first | decide | omega | (simp only [go_sem]; first | done | omega)) only [go_sem, Int.reduceToNat, Nat.reduceMul, Nat.reduceAdd, Nat.reduceSub, ↓EU_region, ↓EU_draw]
        generalize ((h.push (.cells [.int .i64 cf, .slice af lf.length kf] 0)).push (.cells [.int .i64 cg, .slice ag lg.length kg] 0)) = h0 at *
        repeat refine WPo_ob ?_
        refine (LP_rule (fun n st => ∃ (i : Nat) (tm : Fr) (h2 : Heap) (u : Value), st = ⟨tm, h2, []⟩ ∧ n = ll.length - i ∧ i ≤ ll.length ∧ Fr.get tm 2 = .slice al ll.length kl ∧ Fr.get tm 3 = ptr h.next 0 ∧ Fr.get tm 4 = ptr (h.next + 1) 0 ∧ Fr.get tm 7 = u ∧ Fr.get tm 8 = .int .i64 i ∧ OW fltE 2 h2 u (ll.take i) ∧ Gr (.slice none 0 1) h0 u h2)
          (fun q => ∃ tm h2 u, q.2 = ⟨tm, h2, []⟩ ∧ q.1 = .exit 0 ∧ Fr.get tm 2 = .slice al ll.length kl ∧ Fr.get tm 3 = ptr h.next 0 ∧ Fr.get tm 4 = ptr (h.next + 1) 0 ∧ Fr.get tm 7 = u ∧ OW fltE 2 h2 u ll ∧ Gr (.slice none 0 1) h0 u h2) ?_ ll.length _ _ ?_ ?_).mono ?_
        · rintro n _ ⟨i, tm, h2, u, rfl, rfl, hi, g2, g3, g4, g7, g8, hov, gr⟩
          have x2 : Ext h h2 := x0.trans (gr.ext0 (Ext.refl _) (Fresh.nil _ _ _))
          obtain ⟨av, kv, rfl⟩ := hov.val
          simp (maxSteps := 1000000) (disch := first | decide | omega | (simp only [go_sem]; first | done | omega)) only [go_sem, Int.reduceToNat, Nat.reduceMul, Nat.reduceAdd, Nat.reduceSub, ↓EU_region, ↓EU_draw, g2, g8]
          ((repeat refine WPo_ob ?_); (first | refine WPo_cond (fun b4 => ?_) (fun b4 => ?_) | refine WPo_gard (fun b4 => ?_) (fun b4 => ?_) | refine WPo_gardT (fun b4 => ?_) (fun b4 => ?_)) <;> (try simp only [Bool.not_eq_true', Bool.not_eq_false'] at b4))
          · have b4' := b4
            simp only [decide_eq_true_eq] at b4'
            have hi' : i < ll.length := by omega
            obtain ⟨x, hx⟩ : ∃ x, ll[i]? = some x := ⟨_, List.getElem?_eq_getElem hi'⟩
            obtain ⟨b, o, c', e, hb', hrd, hrr⟩ := (hl.ext x2).at hx rfl
            cases e
            have hr0 := hrr 0 _ rfl
            rw [add_z] at hr0
            have hr1 := hrr 1 _ rfl
            have hi0 : ((i : Int)).toNat = i := by omega
            have hwi : wrapF .i64 ((i : Int) + 1) = ((i + 1 : Nat) : Int) := by rw [wrap64 (by omega)]; omega
            have htk : ll.take (i + 1) = ll.take i ++ [x] := by rw [List.take_add_one, hx]; rfl
            simp (maxSteps := 1000000) (disch := first | decide | omega | (simp only [go_sem]; first | done | omega)) only [go_sem, Int.reduceToNat, Nat.reduceMul, Nat.reduceAdd, Nat.reduceSub, ↓EU_region, ↓EU_draw, g2, g3, g4, g7, g8, hr0, hr1, hi0]
            repeat refine WPo_ob ?_
            have hlit := OW.lit fltE_len h2 [x]
            rw [List.flatMap_cons, List.flatMap_nil, List.append_nil] at hlit
            unfold fltE at hlit
            refine append_gr (l := ll.take i) (l' := [x]) fc_ap_32_32 fltE_len (by decide) fltE_scal (hov.ext ((Ext.refl h2).push _)) hlit.sl (by rw [List.length_take]; simp only [List.length_cons, List.length_nil]; omega) (by rw [List.length_take]; simp only [List.length_cons, List.length_nil]; omega) fun v' h5 hov5 gr5 => ?_
            rw [← htk] at hov5
            simp (maxSteps := 1000000) (disch := first | decide | omega | (simp only [go_sem]; first | done | omega)) only [go_sem, Int.reduceToNat, Nat.reduceMul, Nat.reduceAdd, Nat.reduceSub, ↓EU_region, ↓EU_draw, g2, g3, g4, g7, g8, hr0, hr1, hwi]
            exact ⟨_, by omega, i + 1, _, _, _, rfl, rfl, by omega, by simp (maxSteps := 1000000) (disch := first | decide | omega | (simp only [go_sem]; first | done | omega)) only [go_sem, Int.reduceToNat, Nat.reduceMul, Nat.reduceAdd, Nat.reduceSub, ↓EU_region, ↓EU_draw, g2], by simp (maxSteps := 1000000) (disch := first | decide | omega | (simp only [go_sem]; first | done | omega)) only [go_sem, Int.reduceToNat, Nat.reduceMul, Nat.reduceAdd, Nat.reduceSub, ↓EU_region, ↓EU_draw, g3], by simp (maxSteps := 1000000) (disch := first | decide | omega | (simp only [go_sem]; first | done | omega)) only [go_sem, Int.reduceToNat, Nat.reduceMul, Nat.reduceAdd, Nat.reduceSub, ↓EU_region, ↓EU_draw, g4], by simp (maxSteps := 1000000) (disch := first | decide | omega | (simp only [go_sem]; first | done | omega)) only [go_sem, Int.reduceToNat, Nat.reduceMul, Nat.reduceAdd, Nat.reduceSub, ↓EU_region, ↓EU_draw], by simp (maxSteps := 1000000) (disch := first | decide | omega | (simp only [go_sem]; first | done | omega)) only [go_sem, Int.reduceToNat, Nat.reduceMul, Nat.reduceAdd, Nat.reduceSub, ↓EU_region, ↓EU_draw], hov5, (gr.push _).trans gr5⟩
          · simp only [decide_eq_false_iff_not] at b4
            have : i = ll.length := by omega
            subst this
            rw [List.take_length] at hov
            simp (maxSteps := 1000000) (disch := first | decide | omega | (simp only [go_sem]; first | done | omega)) only [go_sem, Int.reduceToNat, Nat.reduceMul, Nat.reduceAdd, Nat.reduceSub, ↓EU_region, ↓EU_draw]
            exact ⟨_, _, _, rfl, trivial, by simp (maxSteps := 1000000) (disch := first | decide | omega | (simp only [go_sem]; first | done | omega)) only [go_sem, Int.reduceToNat, Nat.reduceMul, Nat.reduceAdd, Nat.reduceSub, ↓EU_region, ↓EU_draw, g2], by simp (maxSteps := 1000000) (disch := first | decide | omega | (simp only [go_sem]; first | done | omega)) only [go_sem, Int.reduceToNat, Nat.reduceMul, Nat.reduceAdd, Nat.reduceSub, ↓EU_region, ↓EU_draw, g3], by simp (maxSteps := 1000000) (disch := first | decide | omega | (simp only [go_sem]; first | done | omega)) only [go_sem, Int.reduceToNat, Nat.reduceMul, Nat.reduceAdd, Nat.reduceSub, ↓EU_region, ↓EU_draw, g4], by simp (maxSteps := 1000000) (disch := first | decide | omega | (simp only [go_sem]; first | done | omega)) only [go_sem, Int.reduceToNat, Nat.reduceMul, Nat.reduceAdd, Nat.reduceSub, ↓EU_region, ↓EU_draw, g7], hov, by rw [List.take_length] at gr; exact gr⟩
        · exact ⟨0, _, _, _, rfl, rfl, by omega, by simp (maxSteps := 1000000) (disch := first | decide | omega | (simp only [go_sem]; first | done | omega)) only [go_sem, Int.reduceToNat, Nat.reduceMul, Nat.reduceAdd, Nat.reduceSub, ↓EU_region, ↓EU_draw], by simp (maxSteps := 1000000) (disch := first | decide | omega | (simp only [go_sem]; first | done | omega)) only [go_sem, Int.reduceToNat, Nat.reduceMul, Nat.reduceAdd, Nat.reduceSub, ↓EU_region, ↓EU_draw], by simp (maxSteps := 1000000) (disch := first | decide | omega | (simp only [go_sem]; first | done | omega)) only [go_sem, Int.reduceToNat, Nat.reduceMul, Nat.reduceAdd, Nat.reduceSub, ↓EU_region, ↓EU_draw], by simp (maxSteps := 1000000) (disch := first | decide | omega | (simp only [go_sem]; first | done | omega)) only [go_sem, Int.reduceToNat, Nat.reduceMul, Nat.reduceAdd, Nat.reduceSub, ↓EU_region, ↓EU_draw], by simp (maxSteps := 1000000) (disch := first | decide | omega | (simp only [go_sem]; first | done | omega)) only [go_sem, Int.reduceToNat, Nat.reduceMul, Nat.reduceAdd, Nat.reduceSub, ↓EU_region, ↓EU_draw]; rfl, OW.nil, Gr.refl _ _⟩
        · omega
        · rintro ⟨q, _⟩ ⟨tm, ha, u, rfl, rfl, g2, g3, g4, g7, hov, gr⟩
          have xa : Ext h0 ha := gr.ext0 (Ext.refl _) (Fresh.nil _ _ _)
          have ya : Ext h ha := x0.trans xa
          have nna := xa.le
          have o1a := (xa.old h.next (by omega)).trans o1z
          have o2a := (xa.old (h.next + 1) (by omega)).trans o2z
          have vf := form_veq cf af lf.length kf hf.veq
          have vg := form_veq cg ag lg.length kg hg.veq
          obtain ⟨au, ku, rfl⟩ := hov.val
          simp (maxSteps := 1000000) (disch := first | decide | omega | (simp only [go_sem]; first | done | omega)) only [go_sem, Int.reduceToNat, Nat.reduceMul, Nat.reduceAdd, Nat.reduceSub, g2, g3, g4, g7]
          rw [EU_bad _ _ rfl, EC_tab (tab := [(false, none), (true, none), (false, (some (0, 1))), (true, none), (true, none), (true, none), (false, none), (false, none), (false, none), (true, none), (false, (some (4, 5))), (true, none), (false, (some (4, 6))), (true, none), (true, none), (true, none), (false, none), (false, none), (false, none), (true, none), (false, none), (true, none), (false, none), (false, none), (false, none)]) (by kernel_rfl)]
          have p1 := form_ev cf lf _ ha (hf.ext ya) (by omega)
          unfold formV at p1
          simp (maxSteps := 1000000) (disch := first | decide | omega | (simp only [go_sem]; first | done | omega)) only [go_sem, Int.reduceToNat, Nat.reduceMul, Nat.reduceAdd, Nat.reduceSub, ↓EU_region, ↓EU_draw, g2, g3, g4, g7, vf, vg, o1a, o2a]
          repeat refine WPo_ob ?_
          refine p1.mono ?_
          rintro ⟨v1, h1⟩ ⟨k1, j1, x1⟩
          simp only at x1 k1 j1
          have y1 := ya.trans x1
          have nn1 := x1.le
          have o11 := (x1.old h.next (by omega)).trans o1a
          have o21 := (x1.old (h.next + 1) (by omega)).trans o2a
          obtain ⟨a1, c1, rfl⟩ := k1.val
          have p2 := own_ev cf lf _ h1 (hf.ext y1) (by omega)
          unfold formV at p2
          simp (maxSteps := 1000000) (disch := first | decide | omega | (simp only [go_sem]; first | done | omega)) only [go_sem, Int.reduceToNat, Nat.reduceMul, Nat.reduceAdd, Nat.reduceSub, ↓EU_region, ↓EU_draw, g2, g3, g4, g7, vf, vg, o1a, o2a, o11, o21]
          repeat refine WPo_ob ?_
          refine p2.mono ?_
          rintro ⟨_, h2⟩ ⟨w2, rfl, k2, j2, x2⟩
          simp only at x2 k2 j2
          have y2 := y1.trans x2
          have nn2 := x2.le
          have o12 := (x2.old h.next (by omega)).trans o11
          have o22 := (x2.old (h.next + 1) (by omega)).trans o21
          obtain ⟨a2, c2, rfl⟩ := k2.val
          have p3 := bad_ev cf lf _ h2 k2.sl (by omega)
          unfold formV at p3
          simp (maxSteps := 1000000) (disch := first | decide | omega | (simp only [go_sem]; first | done | omega)) only [go_sem, Int.reduceToNat, Nat.reduceMul, Nat.reduceAdd, Nat.reduceSub, ↓EU_region, ↓EU_draw, g2, g3, g4, g7, vf, vg, o1a, o2a, o11, o21, o12, o22]
          repeat refine WPo_ob ?_
          refine p3.mono ?_
          rintro ⟨v3, h3⟩ ⟨k3, j3, x3⟩
          simp only at x3 k3 j3
          have y3 := y2.trans x3
          have nn3 := x3.le
          have o13 := (x3.old h.next (by omega)).trans o12
          have o23 := (x3.old (h.next + 1) (by omega)).trans o22
          have e1 := fsame_ev (formF cf lf) _ _ h3 ((k1.ext x2).ext x3).sl k3.sl (by have := formF_len cf lf; omega)
          obtain ⟨a3, c3, rfl⟩ := k3.val
          have p4 := faults_ev cf cg lf lg _ _ h3 (hf.ext y3) (hg.ext y3) (by omega) (by omega)
          unfold formV at p4
          simp (maxSteps := 1000000) (disch := first | decide | omega | (simp only [go_sem]; first | done | omega)) only [go_sem, Int.reduceToNat, Nat.reduceMul, Nat.reduceAdd, Nat.reduceSub, ↓EU_region, ↓EU_draw, g2, g3, g4, g7, vf, vg, o1a, o2a, o11, o21, o12, o22, o13, o23, e1]
          repeat refine WPo_ob ?_
          refine p4.mono ?_
          rintro ⟨v4, h4⟩ ⟨k4, j4, x4⟩
          simp only at x4 k4 j4
          have y4 := y3.trans x4
          have nn4 := x4.le
          have o14 := (x4.old h.next (by omega)).trans o13
          have o24 := (x4.old (h.next + 1) (by omega)).trans o23
          obtain ⟨a4, c4, rfl⟩ := k4.val
          have p5 := own_ev cf lf _ h4 (hf.ext y4) (by omega)
          unfold formV at p5
          simp (maxSteps := 1000000) (disch := first | decide | omega | (simp only [go_sem]; first | done | omega)) only [go_sem, Int.reduceToNat, Nat.reduceMul, Nat.reduceAdd, Nat.reduceSub, ↓EU_region, ↓EU_draw, g2, g3, g4, g7, vf, vg, o1a, o2a, o11, o21, o12, o22, o13, o23, e1, o14, o24]
          repeat refine WPo_ob ?_
          refine p5.mono ?_
          rintro ⟨_, h5⟩ ⟨w5, rfl, k5, j5, x5⟩
          simp only at x5 k5 j5
          have y5 := y4.trans x5
          have nn5 := x5.le
          have o15 := (x5.old h.next (by omega)).trans o14
          have o25 := (x5.old (h.next + 1) (by omega)).trans o24
          obtain ⟨a5, c5, rfl⟩ := k5.val
          have p6 := own_ev cg lg _ h5 (hg.ext y5) (by omega)
          unfold formV at p6
          simp (maxSteps := 1000000) (disch := first | decide | omega | (simp only [go_sem]; first | done | omega)) only [go_sem, Int.reduceToNat, Nat.reduceMul, Nat.reduceAdd, Nat.reduceSub, ↓EU_region, ↓EU_draw, g2, g3, g4, g7, vf, vg, o1a, o2a, o11, o21, o12, o22, o13, o23, e1, o14, o24, o15, o25]
          repeat refine WPo_ob ?_
          refine p6.mono ?_
          rintro ⟨_, h6⟩ ⟨w6, rfl, k6, j6, x6⟩
          simp only at x6 k6 j6
          have y6 := y5.trans x6
          have nn6 := x6.le
          have o16 := (x6.old h.next (by omega)).trans o15
          have o26 := (x6.old (h.next + 1) (by omega)).trans o25
          obtain ⟨a6, c6, rfl⟩ := k6.val
          have p7 := rfaults_ev cf cg lf lg _ _ h6 (k5.ext x6).sl k6.sl (by omega) (by omega)
          unfold formV at p7
          simp (maxSteps := 1000000) (disch := first | decide | omega | (simp only [go_sem]; first | done | omega)) only [go_sem, Int.reduceToNat, Nat.reduceMul, Nat.reduceAdd, Nat.reduceSub, ↓EU_region, ↓EU_draw, g2, g3, g4, g7, vf, vg, o1a, o2a, o11, o21, o12, o22, o13, o23, e1, o14, o24, o15, o25, o16, o26]
          repeat refine WPo_ob ?_
          refine p7.mono ?_
          rintro ⟨v7, h7⟩ ⟨k7, j7, x7⟩
          simp only at x7 k7 j7
          have y7 := y6.trans x7
          have nn7 := x7.le
          have o17 := (x7.old h.next (by omega)).trans o16
          have o27 := (x7.old (h.next + 1) (by omega)).trans o26
          have hfl := faultsF_len cf cg lf lg
          have e2 := fsame_ev (faultsF cf lf cg lg) _ _ h7 (((k4.ext x5).ext x6).ext x7).sl k7.sl (by omega)
          obtain ⟨a7, c7, rfl⟩ := k7.val
          have hR : ∀ f ∈ ll, FltR f := fun f hf => ⟨wf_R (wll f hf).1, wf_R (wll f hf).2⟩
          have p8 := text_ev ll _ h7 (hl.ext y7) (by omega) hR
          simp (maxSteps := 1000000) (disch := first | decide | omega | (simp only [go_sem]; first | done | omega)) only [go_sem, Int.reduceToNat, Nat.reduceMul, Nat.reduceAdd, Nat.reduceSub, ↓EU_region, ↓EU_draw, g2, g3, g4, g7, vf, vg, o1a, o2a, o11, o21, o12, o22, o13, o23, e1, o14, o24, o15, o25, o16, o26, o17, o27, e2]
          repeat refine WPo_ob ?_
          refine p8.bind fun h8 x8 => ?_
          have y8 := y7.trans x8
          have nn8 := x8.le
          have o18 := (x8.old h.next (by omega)).trans o17
          have o28 := (x8.old (h.next + 1) (by omega)).trans o27
          have hov8 := (((((((hov.ext x1).ext x2).ext x3).ext x4).ext x5).ext x6).ext x7).ext x8
          have p9 := rtext_ev ll _ h8 hov8.sl (by omega) hR
          simp (maxSteps := 1000000) (disch := first | decide | omega | (simp only [go_sem]; first | done | omega)) only [go_sem, Int.reduceToNat, Nat.reduceMul, Nat.reduceAdd, Nat.reduceSub, ↓EU_region, ↓EU_draw, g2, g3, g4, g7, vf, vg, o1a, o2a, o11, o21, o12, o22, o13, o23, e1, o14, o24, o15, o25, o16, o26, o17, o27, e2, o18, o28]
          repeat refine WPo_ob ?_
          refine p9.bind fun h9 x9 => ?_
          have y9 := y8.trans x9
          have nn9 := x9.le
          have o19 := (x9.old h.next (by omega)).trans o18
          have o29 := (x9.old (h.next + 1) (by omega)).trans o28
          have dt : decide (textF ll = textF ll) = true := decide_eq_true rfl
          simp (maxSteps := 1000000) (disch := first | decide | omega | (simp only [go_sem]; first | done | omega)) only [go_sem, Int.reduceToNat, Nat.reduceMul, Nat.reduceAdd, Nat.reduceSub, ↓EU_region, ↓EU_draw, g2, g3, g4, g7, vf, vg, o1a, o2a, o11, o21, o12, o22, o13, o23, e1, o14, o24, o15, o25, o16, o26, o17, o27, e2, o18, o28, o19, o29, dt]
    · simp (maxSteps := 1000000) (disch := first | decide | omega | (simp only [go_sem]; first | done | omega)) only [go_sem, Int.reduceToNat, Nat.reduceMul, Nat.reduceAdd, Nat.reduceSub, ↓EU_region, ↓EU_draw, b2]
  · simp (maxSteps := 1000000) (disch := first | decide | omega | (simp only [go_sem]; first | done | omega)) only [go_sem, Int.reduceToNat, Nat.reduceMul, Nat.reduceAdd, Nat.reduceSub, ↓EU_region, ↓EU_draw, b1]
end Go.Proofs.YtggidmjgadlolaaDoor.EV
