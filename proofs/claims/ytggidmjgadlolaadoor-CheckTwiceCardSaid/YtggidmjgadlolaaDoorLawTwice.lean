/- CheckTwice, plainly. No condition. -/
import Derived.Test.YtggidmjgadlolaaDoorChk5
namespace Go.Proofs.YtggidmjgadlolaaDoor.EV
open Go Go.Proofs
set_option linter.unusedVariables false
set_option linter.unusedSimpArgs false
set_option maxRecDepth 100000
set_option pp.deepTerms false
set_option pp.deepTerms.threshold 20
theorem law_CheckTwice (h : Heap) (cf : Int) (wf : (Lit.int .i64 cf).wf = true) (sf : Value) (lf : List Item) (hf : SL itemE 3 h sf lf) (wlf : ∀ z ∈ lf, ItemWf z) (cg : Int) (wg : (Lit.int .i64 cg).wf = true) (sg : Value) (lg : List Item) (hg : SL itemE 3 h sg lg) (wlg : ∀ z ∈ lg, ItemWf z) :
    WPo (EF Tryd.prog O0 7 [formV cf sf, formV cg sg] h) fun q => q.1 = .bool true := by
  rw [EF_body (O := O0) (by kernel_rfl) Tryd.func7 rfl (rs := [.tmp 4]) rfl (bad := [5]) (by kernel_rfl) _ _ (m := 60) rfl]
  obtain ⟨af, kf, hv⟩ := hf.val
  subst hv
  obtain ⟨ag, kg, hv⟩ := hg.val
  subst hv
  unfold formV
  simp (maxSteps := 1000000) (disch := first | decide | omega | (simp only [go_sem]; first | done | omega)) only [go_sem, Int.reduceToNat, Nat.reduceMul, Nat.reduceAdd, Nat.reduceSub, ↓EU_region, ↓EU_draw, awake_ev]
  ((repeat refine WPo_ob ?_); (first | refine WPo_cond (fun b1 => ?_) (fun b1 => ?_) | refine WPo_gard (fun b1 => ?_) (fun b1 => ?_) | refine WPo_gardT (fun b1 => ?_) (fun b1 => ?_)) <;> (try simp only [Bool.not_eq_true', Bool.not_eq_false'] at b1))
  · have b1' := b1
    simp only [decide_eq_false_iff_not] at b1'
    simp (maxSteps := 1000000) (disch := first | decide | omega | (simp only [go_sem]; first | done | omega)) only [go_sem, Int.reduceToNat, Nat.reduceMul, Nat.reduceAdd, Nat.reduceSub, ↓EU_region, ↓EU_draw, b1]
    ((repeat refine WPo_ob ?_); (first | refine WPo_cond (fun b2 => ?_) (fun b2 => ?_) | refine WPo_gard (fun b2 => ?_) (fun b2 => ?_) | refine WPo_gardT (fun b2 => ?_) (fun b2 => ?_)) <;> (try simp only [Bool.not_eq_true', Bool.not_eq_false'] at b2))
    · have b2' := b2
      simp only [decide_eq_false_iff_not] at b2'
      have x0 : Ext h ((h.push (.cells [.int .i64 cf, .slice af lf.length kf] 0)).push (.cells [.int .i64 cg, .slice ag lg.length kg] 0)) := ((Ext.refl h).push _).push _
      have p1 := good_ev cf lf _ _ (hf.ext x0) (by omega)
      unfold formV at p1
      simp (maxSteps := 1000000) (disch := first | decide | omega | (simp only [go_sem]; first | done | omega)) only [go_sem, Int.reduceToNat, Nat.reduceMul, Nat.reduceAdd, Nat.reduceSub, ↓EU_region, ↓EU_draw, b1, b2]
      repeat refine WPo_ob ?_
      refine p1.bind fun h1 x1 => ?_
      have hn1 := x1.le
      simp only [next_push] at hn1
      have o1a : h1.get h.next = .cells [.int .i64 cf, .slice af lf.length kf] 0 := by simp (maxSteps := 1000000) (disch := first | decide | omega | (simp only [go_sem]; first | done | omega)) only [go_sem, Int.reduceToNat, Nat.reduceMul, Nat.reduceAdd, Nat.reduceSub, ↓EU_region, ↓EU_draw, x1.old]
      have o2a : h1.get (h.next + 1) = .cells [.int .i64 cg, .slice ag lg.length kg] 0 := by simp (maxSteps := 1000000) (disch := first | decide | omega | (simp only [go_sem]; first | done | omega)) only [go_sem, Int.reduceToNat, Nat.reduceMul, Nat.reduceAdd, Nat.reduceSub, ↓EU_region, ↓EU_draw, x1.old]
      have y1 : Ext h h1 := x0.trans x1
      cases hGf : goodF cf lf with
      | false => simp (maxSteps := 1000000) (disch := first | decide | omega | (simp only [go_sem]; first | done | omega)) only [go_sem, Int.reduceToNat, Nat.reduceMul, Nat.reduceAdd, Nat.reduceSub, ↓EU_region, ↓EU_draw]
      | true =>
        have p2 := good_ev cg lg _ h1 (hg.ext y1) (by omega)
        unfold formV at p2
        simp (maxSteps := 1000000) (disch := first | decide | omega | (simp only [go_sem]; first | done | omega)) only [go_sem, Int.reduceToNat, Nat.reduceMul, Nat.reduceAdd, Nat.reduceSub, ↓EU_region, ↓EU_draw, o1a, o2a]
        repeat refine WPo_ob ?_
        refine p2.bind fun h2 x2 => ?_
        have y2 : Ext h h2 := y1.trans x2
        have hn2 := x2.le
        have o1b : h2.get h.next = .cells [.int .i64 cf, .slice af lf.length kf] 0 := (x2.old _ (by omega)).trans o1a
        have o2b : h2.get (h.next + 1) = .cells [.int .i64 cg, .slice ag lg.length kg] 0 := (x2.old _ (by omega)).trans o2a
        cases hGg : goodF cg lg with
        | false => simp (maxSteps := 1000000) (disch := first | decide | omega | (simp only [go_sem]; first | done | omega)) only [go_sem, Int.reduceToNat, Nat.reduceMul, Nat.reduceAdd, Nat.reduceSub, ↓EU_region, ↓EU_draw]
        | true =>
          have vf := form_veq cf af lf.length kf hf.veq'
          have vg := form_veq cg ag lg.length kg hg.veq'
          have p3 := faults_ev cf cg lf lg _ _ h2 (hf.ext y2) (hg.ext y2) (by omega) (by omega)
          unfold formV at p3
          simp (maxSteps := 1000000) (disch := first | decide | omega | (simp only [go_sem]; first | done | omega)) only [go_sem, Int.reduceToNat, Nat.reduceMul, Nat.reduceAdd, Nat.reduceSub]
          rw [EU_bad _ _ rfl, EC_tab (tab := [(false, none), (false, none), (true, none), (false, (some (0, 1))), (false, (some (0, 1))), (true, none), (false, none), (false, none)]) (by kernel_rfl)]
          simp (maxSteps := 1000000) (disch := first | decide | omega | (simp only [go_sem]; first | done | omega)) only [go_sem, Int.reduceToNat, Nat.reduceMul, Nat.reduceAdd, Nat.reduceSub, ↓EU_region, ↓EU_draw, o1b, o2b]
          repeat refine WPo_ob ?_
          refine p3.mono ?_
          rintro ⟨v3, h3⟩ ⟨k3, j3, x3⟩
          simp only at x3 k3 j3
          have y3 : Ext h h3 := y2.trans x3
          have hn3 := x3.le
          have o1c : h3.get h.next = .cells [.int .i64 cf, .slice af lf.length kf] 0 := (x3.old _ (by omega)).trans o1b
          have o2c : h3.get (h.next + 1) = .cells [.int .i64 cg, .slice ag lg.length kg] 0 := (x3.old _ (by omega)).trans o2b
          have p4 := faults_ev cg cf lg lf _ _ h3 (hg.ext y3) (hf.ext y3) (by omega) (by omega)
          unfold formV at p4
          obtain ⟨a3, c3, rfl⟩ := k3.val
          simp (maxSteps := 1000000) (disch := first | decide | omega | (simp only [go_sem]; first | done | omega)) only [go_sem, Int.reduceToNat, Nat.reduceMul, Nat.reduceAdd, Nat.reduceSub, ↓EU_region, ↓EU_draw, o1b, o2b, o1c, o2c]
          repeat refine WPo_ob ?_
          refine p4.mono ?_
          rintro ⟨v4, h4⟩ ⟨k4, j4, x4⟩
          simp only at x4 k4 j4
          have y4 : Ext h h4 := y3.trans x4
          have hn4 := x4.le
          have o1d : h4.get h.next = .cells [.int .i64 cf, .slice af lf.length kf] 0 := (x4.old _ (by omega)).trans o1c
          have o2d : h4.get (h.next + 1) = .cells [.int .i64 cg, .slice ag lg.length kg] 0 := (x4.old _ (by omega)).trans o2c
          obtain ⟨a4, c4, rfl⟩ := k4.val
          have e1 := faults_same (c1 := cf) (l := lf) hGg
          have e2 := faults_same (c1 := cg) (l := lg) hGf
          have e3 : (decide (cg = cf) && decide (lg = lf)) = (decide (cf = cg) && decide (lf = lg)) := by
            congr 1
            · exact decide_eq_decide.2 eq_comm
            · exact decide_eq_decide.2 eq_comm
          have hbb : ∀ b : Bool, (b == b) = true := fun b => by cases b <;> rfl
          have p5 := same_ev cf cg lf lg _ _ h4 (hf.ext y4) (hg.ext y4) (by omega)
          unfold formV at p5
          rw [e3] at e2
          simp (maxSteps := 1000000) (disch := first | decide | omega | (simp only [go_sem]; first | done | omega)) only [go_sem, Int.reduceToNat, Nat.reduceMul, Nat.reduceAdd, Nat.reduceSub, ↓EU_region, ↓EU_draw, o1b, o2b, o1c, o2c, o1d, o2d, vf, vg, e1, e2, hbb]
          repeat refine WPo_ob ?_
          refine p5.bind fun h5 x5 => ?_
          have hR := faultsF_R (c2 := cg) (l := lf) (by omega) (wf_R wf) (fun x hx => wf_R (wlf x hx).1) (fun x hx => wf_R (wlg x hx).1)
          have hlen := faultsF_len cf cg lf lg
          have p6 := text_ev (faultsF cf lf cg lg) _ h5 ((k3.ext x4).ext x5).sl (by omega) hR
          simp (maxSteps := 1000000) (disch := first | decide | omega | (simp only [go_sem]; first | done | omega)) only [go_sem, Int.reduceToNat, Nat.reduceMul, Nat.reduceAdd, Nat.reduceSub, ↓EU_region, ↓EU_draw, hbb]
          repeat refine WPo_ob ?_
          refine p6.bind fun h6 x6 => ?_
          have hok : decide (textF (faultsF cf lf cg lg) = [111, 107]) = (decide (cf = cg) && decide (lf = lg)) := by
            rw [← e1, Bool.eq_iff_iff, len0, decide_eq_true_eq]
            exact textF_ok hR
          have hst : ∀ (P : Program) (t : TypeId) (x y : Operand), evBin P .eql t x y (strV (textF (faultsF cf lf cg lg))) (.string ⟨#[111, 107]⟩) = some (.bool (decide (cf = cg) && decide (lf = lg))) := fun P t x y => by rw [← hok]; exact str_eql P t x y _ [111, 107]
          simp (maxSteps := 1000000) (disch := first | decide | omega | (simp only [go_sem]; first | done | omega)) only [go_sem, Int.reduceToNat, Nat.reduceMul, Nat.reduceAdd, Nat.reduceSub, ↓EU_region, ↓EU_draw, hbb, hst, e1]
    · simp (maxSteps := 1000000) (disch := first | decide | omega | (simp only [go_sem]; first | done | omega)) only [go_sem, Int.reduceToNat, Nat.reduceMul, Nat.reduceAdd, Nat.reduceSub, ↓EU_region, ↓EU_draw, b2]
  · simp (maxSteps := 1000000) (disch := first | decide | omega | (simp only [go_sem]; first | done | omega)) only [go_sem, Int.reduceToNat, Nat.reduceMul, Nat.reduceAdd, Nat.reduceSub, ↓EU_region, ↓EU_draw, b1]
end Go.Proofs.YtggidmjgadlolaaDoor.EV
