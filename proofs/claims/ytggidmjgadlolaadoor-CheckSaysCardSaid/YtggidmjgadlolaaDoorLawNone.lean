/- CheckNone, plainly. No condition. -/
import Derived.Test.YtggidmjgadlolaaDoorChk3
import Derived.Test.YtggidmjgadlolaaDoorRowItem
namespace Go.Proofs.YtggidmjgadlolaaDoor.EV
open Go Go.Proofs
set_option linter.unusedVariables false
set_option linter.unusedSimpArgs false
set_option maxRecDepth 100000
set_option pp.deepTerms false
set_option pp.deepTerms.threshold 20
theorem SL.veq' {α : Type} {e : α → List Value} {es : Nat} {h : Heap} {v : Value} {l : List α} (s : SL e es h v l) : veq v v = true := by
  cases s with
  | nil => exact veq_slN _ _
  | mk b o c l cs hb hc hl hx hcap hq => exact veq_slS _ _ _ _
theorem form_veq (c : Int) (a : Option Addr) (n k : Nat) (hv : veq (.slice a n k) (.slice a n k) = true) : veqL [.int .i64 c, .slice a n k] [.int .i64 c, .slice a n k] = true := by
  rw [veqL_c _ _ _ _ (fun _ h => by cases h) (fun _ h => by cases h), veqL_c _ _ _ _ (fun _ h => by cases h) (fun _ h => by cases h), hv, veqL_n, Bool.and_true, Bool.and_true]
  · have := veqL_flat [Value.int .i64 c] rfl
    rw [veqL_c _ _ _ _ (fun _ h => by cases h) (fun _ h => by cases h), veqL_n, Bool.and_true] at this
    exact this
theorem law_CheckNone (h : Heap) (cf : Int) (wf : (Lit.int .i64 cf).wf = true) (sf : Value) (lf : List Item) (hf : SL itemE 3 h sf lf) (wlf : ∀ z ∈ lf, ItemWf z) (cg : Int) (wg : (Lit.int .i64 cg).wf = true) (sg : Value) (lg : List Item) (hg : SL itemE 3 h sg lg) (wlg : ∀ z ∈ lg, ItemWf z) :
    WPo (EF Tryd.prog O0 6 [formV cf sf, formV cg sg] h) fun q => q.1 = .bool true := by
  rw [EF_body (O := O0) (by kernel_rfl) Tryd.func6 rfl (rs := [.tmp 4]) rfl (bad := [5]) (by kernel_rfl) _ _ (m := 40) rfl]
  obtain ⟨af, kf, hv⟩ := hf.val
  subst hv
  obtain ⟨ag, kg, hv⟩ := hg.val
  subst hv
  unfold formV
  simp (maxSteps := 1000000) (disch := first | decide | omega | (simp only [go_sem]; first | done | omega)) only [go_sem, Int.reduceToNat, Nat.reduceMul, Nat.reduceAdd, Nat.reduceSub, ↓EU_region, ↓EU_draw, awake_ev]
  ((repeat refine WPo_ob ?_); (first | refine WPo_cond (fun b1 => ?_) (fun b1 => ?_) | refine WPo_gard (fun b1 => ?_) (fun b1 => ?_) | refine WPo_gardT (fun b1 => ?_) (fun b1 => ?_)) <;> (try simp only [Bool.not_eq_true', Bool.not_eq_false'] at b1))
  · have b1' := b1
    simp only [decide_eq_false_iff_not] at b1'
    simp (maxSteps := 1000000) (disch := first | decide | omega | (simp only [go_sem]; first | done | omega)) only [go_sem, Int.reduceToNat, Nat.reduceMul, Nat.reduceAdd, Nat.reduceSub, ↓EU_region, ↓EU_draw, b1]
    ((repeat refine WPo_ob ?_); (first | refine WPo_cond (fun b2 => ?_) (fun b2 => ?_) | refine WPo_gard (fun b2 => ?_) (fun b2 => ?_) | refine WPo_gardT (fun b2 => ?_) (fun b2 => ?_)) <;> (try simp only [Bool.not_eq_true', Bool.not_eq_false'] at b2))
    · simp (maxSteps := 1000000) (disch := first | decide | omega | (simp only [go_sem]; first | done | omega)) only [go_sem, Int.reduceToNat, Nat.reduceMul, Nat.reduceAdd, Nat.reduceSub, ↓EU_region, ↓EU_draw, b2]
    · have b2' := b2
      simp only [decide_eq_false_iff_not] at b2'
      simp (maxSteps := 1000000) (disch := first | decide | omega | (simp only [go_sem]; first | done | omega)) only [go_sem, Int.reduceToNat, Nat.reduceMul, Nat.reduceAdd, Nat.reduceSub, b1, b2]
      rw [EU_bad _ _ rfl, EC_tab (tab := [(false, none), (true, none), (false, (some (1, 2))), (false, none), (false, (some (0, 1))), (true, none), (false, none), (false, none), (false, none), (true, none), (false, none), (false, none), (false, none), (false, none), (true, none), (false, (some (4, 5))), (false, none), (false, (some (3, 4))), (false, (some (3, 4))), (true, none), (false, none), (false, none), (false, none), (false, none)]) (by kernel_rfl)]
      have x0 : Ext h ((h.push (.cells [.int .i64 cf, .slice af lf.length kf] 0)).push (.cells [.int .i64 cg, .slice ag lg.length kg] 0)) := ((Ext.refl h).push _).push _
      have p1 := form_ev cf lf _ _ (hf.ext x0) (by omega)
      unfold formV at p1
      simp (maxSteps := 1000000) (disch := first | decide | omega | (simp only [go_sem]; first | done | omega)) only [go_sem, Int.reduceToNat, Nat.reduceMul, Nat.reduceAdd, Nat.reduceSub, ↓EU_region, ↓EU_draw]
      repeat refine WPo_ob ?_
      refine p1.mono ?_
      rintro ⟨v1, h1⟩ ⟨k1, j1, x1⟩
      simp only at x1 k1 j1
      have hn1 := x1.le
      simp only [next_push] at hn1
      have o1a : h1.get h.next = .cells [.int .i64 cf, .slice af lf.length kf] 0 := by simp (maxSteps := 1000000) (disch := first | decide | omega | (simp only [go_sem]; first | done | omega)) only [go_sem, Int.reduceToNat, Nat.reduceMul, Nat.reduceAdd, Nat.reduceSub, ↓EU_region, ↓EU_draw, x1.old]
      have o2a : h1.get (h.next + 1) = .cells [.int .i64 cg, .slice ag lg.length kg] 0 := by simp (maxSteps := 1000000) (disch := first | decide | omega | (simp only [go_sem]; first | done | omega)) only [go_sem, Int.reduceToNat, Nat.reduceMul, Nat.reduceAdd, Nat.reduceSub, ↓EU_region, ↓EU_draw, x1.old]
      have y1 : Ext h h1 := x0.trans x1
      have hfg := form_good cf lf
      have vf := form_veq cf af lf.length kf hf.veq'
      have vg := form_veq cg ag lg.length kg hg.veq'
      have p2 := good_ev cf lf _ h1 (hf.ext y1) (by omega)
      unfold formV at p2
      have hbb : ∀ b : Bool, (b == b) = true := fun b => by cases b <;> rfl
      obtain ⟨a1, c1, rfl⟩ := k1.val
      simp (maxSteps := 1000000) (disch := first | decide | omega | (simp only [go_sem]; first | done | omega)) only [go_sem, Int.reduceToNat, Nat.reduceMul, Nat.reduceAdd, Nat.reduceSub, ↓EU_region, ↓EU_draw, o1a, o2a, hfg, vf, vg]
      repeat refine WPo_ob ?_
      refine p2.bind fun h2 x2 => ?_
      have y2 : Ext h h2 := y1.trans x2
      have hn2 := x2.le
      have o1b : h2.get h.next = .cells [.int .i64 cf, .slice af lf.length kf] 0 := (x2.old _ (by omega)).trans o1a
      have o2b : h2.get (h.next + 1) = .cells [.int .i64 cg, .slice ag lg.length kg] 0 := (x2.old _ (by omega)).trans o2a
      have p3 := good_ev cg lg _ h2 (hg.ext y2) (by omega)
      unfold formV at p3
      simp (maxSteps := 1000000) (disch := first | decide | omega | (simp only [go_sem]; first | done | omega)) only [go_sem, Int.reduceToNat, Nat.reduceMul, Nat.reduceAdd, Nat.reduceSub, ↓EU_region, ↓EU_draw, o1a, o2a, o1b, o2b, hbb, vf, vg]
      repeat refine WPo_ob ?_
      refine p3.bind fun h3 x3 => ?_
      have y3 : Ext h h3 := y2.trans x3
      have hn3 := x3.le
      have o1c : h3.get h.next = .cells [.int .i64 cf, .slice af lf.length kf] 0 := (x3.old _ (by omega)).trans o1b
      have o2c : h3.get (h.next + 1) = .cells [.int .i64 cg, .slice ag lg.length kg] 0 := (x3.old _ (by omega)).trans o2b
      cases hG : goodF cg lg with
      | false =>
        simp (maxSteps := 1000000) (disch := first | decide | omega | (simp only [go_sem]; first | done | omega)) only [go_sem, Int.reduceToNat, Nat.reduceMul, Nat.reduceAdd, Nat.reduceSub, ↓EU_region, ↓EU_draw, o1a, o2a, o1b, o2b, o1c, o2c, vf, vg]
      | true =>
        have p4 := faults_ev cf cg lf lg _ _ h3 (hf.ext y3) (hg.ext y3) (by omega) (by omega)
        unfold formV at p4
        simp (maxSteps := 1000000) (disch := first | decide | omega | (simp only [go_sem]; first | done | omega)) only [go_sem, Int.reduceToNat, Nat.reduceMul, Nat.reduceAdd, Nat.reduceSub, ↓EU_region, ↓EU_draw, o1a, o2a, o1b, o2b, o1c, o2c, vf, vg]
        repeat refine WPo_ob ?_
        refine p4.mono ?_
        rintro ⟨v4, h4⟩ ⟨k4, j4, x4⟩
        simp only at x4 k4 j4
        have y4 : Ext h h4 := y3.trans x4
        have hn4 := x4.le
        have o1d : h4.get h.next = .cells [.int .i64 cf, .slice af lf.length kf] 0 := (x4.old _ (by omega)).trans o1c
        have o2d : h4.get (h.next + 1) = .cells [.int .i64 cg, .slice ag lg.length kg] 0 := (x4.old _ (by omega)).trans o2c
        have p5 := same_ev cf cg lf lg _ _ h4 (hf.ext y4) (hg.ext y4) (by omega)
        unfold formV at p5
        have hfs := faults_same (c1 := cf) (l := lf) hG
        obtain ⟨a4, c4, rfl⟩ := k4.val
        simp (maxSteps := 1000000) (disch := first | decide | omega | (simp only [go_sem]; first | done | omega)) only [go_sem, Int.reduceToNat, Nat.reduceMul, Nat.reduceAdd, Nat.reduceSub, ↓EU_region, ↓EU_draw, o1a, o2a, o1b, o2b, o1c, o2c, o1d, o2d, hfs, vf, vg]
        repeat refine WPo_ob ?_
        refine p5.bind fun h5 x5 => ?_
        have o1e : h5.get h.next = .cells [.int .i64 cf, .slice af lf.length kf] 0 := (x5.old _ (by omega)).trans o1d
        have o2e : h5.get (h.next + 1) = .cells [.int .i64 cg, .slice ag lg.length kg] 0 := (x5.old _ (by omega)).trans o2d
        simp (maxSteps := 1000000) (disch := first | decide | omega | (simp only [go_sem]; first | done | omega)) only [go_sem, Int.reduceToNat, Nat.reduceMul, Nat.reduceAdd, Nat.reduceSub, ↓EU_region, ↓EU_draw, hbb, o1a, o2a, o1b, o2b, o1c, o2c, o1d, o2d, o1e, o2e, vf, vg]
  · simp (maxSteps := 1000000) (disch := first | decide | omega | (simp only [go_sem]; first | done | omega)) only [go_sem, Int.reduceToNat, Nat.reduceMul, Nat.reduceAdd, Nat.reduceSub, ↓EU_region, ↓EU_draw, b1]
end Go.Proofs.YtggidmjgadlolaaDoor.EV
