/- GroupsPlays, plainly. No condition. -/
import Derived.Test.YtagjgigknnaphaaRowAct
namespace Go.Proofs.Ytagjgigknnaphaa.EV
open Go Go.Proofs
set_option linter.unusedVariables false
set_option linter.unusedSimpArgs false
set_option maxRecDepth 100000
set_option pp.deepTerms false
set_option pp.deepTerms.threshold 20
theorem GR.modO {h h' : Heap} {B R : Nat} {gl : List Gp} (g : GR h B gl) (m : Mod (fun j => j = R) h h') (hne : B ≠ R) : GR h' B gl := ⟨by rw [m.old B g.2.2 hne]; exact g.1, g.2.1, Nat.lt_of_lt_of_le g.2.2 m.le⟩
theorem RR.modO {h h' : Heap} {B R : Nat} {U : List Int} {T : List Bool} (g : RR h R U T) (m : Mod (fun j => j = B) h h') (hne : R ≠ B) : RR h' R U T := ⟨by rw [m.old R g.2.2.2 hne]; exact g.1, g.2.1, g.2.2.1, Nat.lt_of_lt_of_le g.2.2.2 m.le⟩
theorem up_iff {gl : List Gp} (gi : GI gl) {k : Int} {l : List Int} (hp : PA gl k l) : (hasB gl k && !decide (k = 0)) = decide (1 < l.length) ∧ (1 < l.length → l[1]? = some (gat gl k).2) := by
  obtain ⟨l', p1, _, p3⟩ := gi.2.2 k
  have e := p1.uniq hp
  subst e
  rcases hp.head with ⟨hb, rfl⟩ | ⟨hb, m, rfl, pm⟩
  · rw [hb]
    exact ⟨rfl, fun q => by simp at q⟩
  · rw [hb]
    by_cases q : k = 0
    · subst q
      rw [gi.2.1] at pm
      have : m = [] := by
        rcases pm.head with ⟨_, e⟩ | ⟨e, _⟩
        · exact e
        · cases e
      subst this
      exact ⟨by decide, fun q => by simp at q⟩
    · have hm : ∃ m', m = (gat gl k).2 :: m' := by
        rcases pm.head with ⟨_, e⟩ | ⟨_, m', e, _⟩
        · subst e
          have := p3 (by simp)
          simp at this
          exact (q this).elim
        · exact ⟨m', e⟩
      obtain ⟨m', rfl⟩ := hm
      refine ⟨?_, fun _ => rfl⟩
      rw [decide_eq_false q, decide_eq_true (by simp)]; rfl
set_option maxHeartbeats 16000000 in
theorem law_GroupsPlays (h00 : Heap) (sl : Value) (ll : List Act2) (hl : SL actE 2 h00 sl ll) (wl : ∀ z ∈ ll, ActWf z) :
    WPo (EF Try.prog O0 5 [sl] h00) fun q => q.1 = .bool true := by
  rw [EF_body (O := O0) (by kernel_rfl) Try.func5 rfl (rs := [.tmp 2]) rfl (bad := [10]) (by kernel_rfl) _ _ (m := 126) rfl]
  obtain ⟨al, kl, hv⟩ := hl.val
  subst hv
  have ds : ∀ x : Int, decide (x = x) = true := fun x => decide_eq_true rfl
  have bs : ∀ x : Bool, (x != x) = false := fun x => by cases x <;> rfl
  simp (maxSteps := 1000000) (disch := first | decide | omega | (simp only [go_sem]; first | done | omega)) only [go_sem, Int.reduceToNat, Nat.reduceMul, Nat.reduceAdd, Nat.reduceSub, ↓EU_region, ↓EU_draw, awake_ev]
  ((repeat refine WPo_ob ?_); (first | refine WPo_cond (fun b1 => ?_) (fun b1 => ?_) | refine WPo_gard (fun b1 => ?_) (fun b1 => ?_) | refine WPo_gardT (fun b1 => ?_) (fun b1 => ?_)) <;> (try simp only [Bool.not_eq_true', Bool.not_eq_false'] at b1))
  · simp (maxSteps := 1000000) (disch := first | decide | omega | (simp only [go_sem]; first | done | omega)) only [go_sem, Int.reduceToNat, Nat.reduceMul, Nat.reduceAdd, Nat.reduceSub, ↓EU_region, ↓EU_draw, b1]
  · have b1' := b1
    simp only [decide_eq_false_iff_not] at b1'
    simp (maxSteps := 1000000) (disch := first | decide | omega | (simp only [go_sem]; first | done | omega)) only [go_sem, Int.reduceToNat, Nat.reduceMul, Nat.reduceAdd, Nat.reduceSub, ↓EU_region, ↓EU_draw, b1]
    repeat refine WPo_ob ?_
    refine (gnew_ev h00).mono ?_
    rintro ⟨v, h1⟩ ⟨rfl, gr1, x1⟩
    simp only at gr1 x1
    simp (maxSteps := 1000000) (disch := first | decide | omega | (simp only [go_sem]; first | done | omega)) only [go_sem, Int.reduceToNat, Nat.reduceMul, Nat.reduceAdd, Nat.reduceSub, ↓EU_region, ↓EU_draw]
    repeat refine WPo_ob ?_
    refine (rnew_ev h1).mono ?_
    rintro ⟨v, h2⟩ ⟨rfl, rr2, x2⟩
    simp only at rr2 x2
    have hBR : h00.next ≠ h1.next := by have := gr1.2.2; omega
    have hB1 : h00.next ≤ h1.next := x1.le
    simp (maxSteps := 1000000) (disch := first | decide | omega | (simp only [go_sem]; first | done | omega)) only [go_sem, Int.reduceToNat, Nat.reduceMul, Nat.reduceAdd, Nat.reduceSub, ↓EU_region, ↓EU_draw]
    repeat refine WPo_ob ?_
    refine (LP_rule (fun m st => ∃ (i : Nat) (tm : Fr) (h' : Heap) (gl : List Gp) (U : List Int) (T : List Bool), st = ⟨tm, h', []⟩ ∧ m = ll.length - i ∧ i ≤ ll.length ∧ Fr.get tm 0 = .slice al ll.length kl ∧ Fr.get tm 3 = ptr h00.next 0 ∧ Fr.get tm 4 = ptr h1.next 0 ∧ Fr.get tm 5 = .int .i64 i ∧ GR h' h00.next gl ∧ RR h' h1.next U T ∧ RL gl U T ∧ GI gl ∧ Ext h00 h')
      (fun q => ∃ (tm : Fr) (h' : Heap), q.2 = ⟨tm, h', []⟩ ∧ q.1 = .exit 0) ?_ ll.length _ _ ?_ ?_).mono ?_
    · rintro m _ ⟨i, tm, h', gl, U, T, rfl, rfl, hi, g0, g3, g4, g5, gr, rr, rl, gi, x'⟩
      by_cases q : i < ll.length
      · have d1 : decide ((i : Int) < ll.length) = true := decide_eq_true (by omega)
        obtain ⟨⟨op, id⟩, hx⟩ : ∃ x, ll[i]? = some x := ⟨_, List.getElem?_eq_getElem q⟩
        obtain ⟨bb, o, c', e, hb', hrd, hr⟩ := (hl.ext x').at hx rfl
        cases e
        have hr0 := hr 0 _ rfl
        have hr1 := hr 1 _ rfl
        rw [Nat.add_zero] at hr0
        have hwi : wrapF .i64 ((i : Int) + 1) = ((i + 1 : Nat) : Int) := by rw [wrap64 (by omega)]; rfl
        by_cases qo : op = 1
        · have dop : decide (op = 1) = true := decide_eq_true qo
          simp (maxSteps := 1000000) (disch := first | decide | omega | (simp only [go_sem]; first | done | omega)) only [go_sem, Int.reduceToNat, Nat.reduceMul, Nat.reduceAdd, Nat.reduceSub, ↓EU_region, ↓EU_draw, g0, g3, g4, g5, d1, hr0, dop]
          rw [EU_bad _ _ rfl, EC_tab (tab := [(false, none), (false, none), (false, none), (false, none), (false, none), (false, none), (true, none), (false, none), (false, none), (false, none), (false, none), (false, none), (false, (some (0, 1))), (true, none), (false, none)]) (by kernel_rfl)]
          simp (maxSteps := 1000000) (disch := first | decide | omega | (simp only [go_sem]; first | done | omega)) only [go_sem, Int.reduceToNat, Nat.reduceMul, Nat.reduceAdd, Nat.reduceSub, ↓EU_region, ↓EU_draw, g0, g3, g4, g5, hr1]
          repeat refine WPo_ob ?_
          refine (grem_ev gl h00.next id h' gr).mono ?_
          rintro ⟨v, h3⟩ ⟨rfl, gr3, m3⟩
          simp only at gr3 m3
          have x3 : Ext h00 h3 := Mod.ext ((x'.mod (fun _ => False)).drop (m3.mono fun j _ q => .inr (by omega)))
          obtain ⟨b3, o3, c3, e, _, _, hr3⟩ := (hl.ext x3).at hx rfl
          cases e
          have hr31 := hr3 1 _ rfl
          simp (maxSteps := 1000000) (disch := first | decide | omega | (simp only [go_sem]; first | done | omega)) only [go_sem, Int.reduceToNat, Nat.reduceMul, Nat.reduceAdd, Nat.reduceSub, ↓EU_region, ↓EU_draw, g0, g3, g4, g5, hr31]
          repeat refine WPo_ob ?_
          refine (rrem_ev gl gi U T h1.next id h3 (rr.modO m3 (Ne.symm hBR)) rl).mono ?_
          rintro ⟨v, h4⟩ ⟨rfl, ⟨U2, T2, rr4, rl2⟩, m4⟩
          simp only at rr4 m4
          have gi2 := GI_rem gi id
          generalize (gremR gl id).2 = gl2 at *
          have x4 : Ext h00 h4 := Mod.ext ((x3.mod (fun _ => False)).drop (m4.mono fun j _ q => .inr (by omega)))
          obtain ⟨b3, o3, c3, e, _, _, hr4⟩ := (hl.ext x4).at hx rfl
          cases e
          have hr41 := hr4 1 _ rfl
          simp (maxSteps := 1000000) (disch := first | decide | omega | (simp only [go_sem]; first | done | omega)) only [go_sem, Int.reduceToNat, Nat.reduceMul, Nat.reduceAdd, Nat.reduceSub, ↓EU_region, ↓EU_draw, g0, g3, g4, g5, hr41, hr31, hr1, ds]
          have x5 : Ext h00 h4 := x4
          have grB := gr3.modO m4 hBR
          have rrR := rr4
          -- the rows of all
          repeat refine WPo_ob ?_
          refine (all_ev gl2 h00.next h4 grB).mono ?_
          rintro ⟨v, k1⟩ ⟨oa, fa, xa⟩
          simp only at oa fa xa
          obtain ⟨aa, ac, rfl⟩ := oa.val
          simp (maxSteps := 1000000) (disch := first | decide | omega | (simp only [go_sem]; first | done | omega)) only [go_sem, Int.reduceToNat, Nat.reduceMul, Nat.reduceAdd, Nat.reduceSub, ↓EU_region, ↓EU_draw, g4]
          repeat refine WPo_ob ?_
          refine (rall_ev gl2 _ _ h1.next k1 (rrR.ext xa) rl2).mono ?_
          rintro ⟨v, k2⟩ ⟨ob', fb, xb⟩
          simp only at ob' fb xb
          obtain ⟨ba, bc, rfl⟩ := ob'.val
          have hal := allN_len gl2 16
          have hii := ints_ev (allN gl2 16) (allN gl2 16) _ _ k2 (oa.ext xb).sl ob'.sl (by omega) (by omega)
          rw [decide_eq_true rfl] at hii
          simp (maxSteps := 1000000) (disch := first | decide | omega | (simp only [go_sem]; first | done | omega)) only [go_sem, Int.reduceToNat, Nat.reduceMul, Nat.reduceAdd, Nat.reduceSub, ↓EU_region, ↓EU_draw, hii]
          have grk := (grB.ext xa).ext xb
          have rrk := (rrR.ext xa).ext xb
          have xk : Ext h00 k2 := x5.trans (xa.trans xb)
          repeat refine WPo_ob ?_
          refine (LP_rule (fun m st => ∃ (j : Nat) (tm2 : Fr) (h9 : Heap), st = ⟨tm2, h9, []⟩ ∧ m = 18 - j ∧ j ≤ 18 ∧ Fr.get tm2 0 = .slice (some { block := bb, off := o }) ll.length kl ∧ Fr.get tm2 3 = ptr h00.next 0 ∧ Fr.get tm2 4 = ptr h1.next 0 ∧ Fr.get tm2 5 = .int .i64 i ∧ Fr.get tm2 10 = .int .i64 ((j : Int) - 1) ∧ Ext k2 h9)
            (fun q => ∃ (tm2 : Fr) (h9 : Heap), q.2 = ⟨tm2, h9, []⟩ ∧ q.1 = .exit 2 ∧ Fr.get tm2 0 = .slice (some { block := bb, off := o }) ll.length kl ∧ Fr.get tm2 3 = ptr h00.next 0 ∧ Fr.get tm2 4 = ptr h1.next 0 ∧ Fr.get tm2 5 = .int .i64 i ∧ Ext k2 h9) ?_ 18 _ _ ?_ ?_).mono ?_
          · rintro m _ ⟨j, tm2, h9, rfl, rfl, hj, p0, p3, p4, p5, p10, x9⟩
            by_cases qj : j < 18
            · have dj : decide ((j : Int) - 1 < 17) = true := decide_eq_true (by omega)
              obtain ⟨l, pl, l4, l0⟩ := gi2.2.2 ((j : Int) - 1)
              obtain ⟨hu1, hu2⟩ := up_iff gi2 pl
              have wj : wrapF .i64 ((j : Int) - 1 + 1) = ((j + 1 : Nat) : Int) - 1 := by rw [wrap64 (by omega)]; omega
              have wj2 : (j : Int) - 1 + 1 = ((j + 1 : Nat) : Int) - 1 := by omega
              have gr9 := grk.ext x9
              simp (maxSteps := 1000000) (disch := first | decide | omega | (simp only [go_sem]; first | done | omega)) only [go_sem, Int.reduceToNat, Nat.reduceMul, Nat.reduceAdd, Nat.reduceSub, ↓EU_region, ↓EU_draw, p3, p4, p10, dj]
              repeat refine WPo_ob ?_
              refine (rpath_ev gl2 _ _ h1.next _ l pl (by omega) h9 (rrk.ext x9) rl2).mono ?_
              rintro ⟨v, m1⟩ ⟨om, fm, xm⟩
              simp only at om fm xm
              obtain ⟨ma, mc, rfl⟩ := om.val
              have hup := gup_ev gl2 h00.next ((j : Int) - 1) m1 (gr9.ext xm)
              rw [hu1] at hup
              simp (maxSteps := 1000000) (disch := first | decide | omega | (simp only [go_sem]; first | done | omega)) only [go_sem, Int.reduceToNat, Nat.reduceMul, Nat.reduceAdd, Nat.reduceSub, ↓EU_region, ↓EU_draw, p3, p10, hup]
              repeat refine WPo_ob ?_
              refine (chain_ev gl2 h00.next _ l pl (by omega) m1 (gr9.ext xm)).mono ?_
              rintro ⟨v, m2⟩ ⟨oc, fc, xc⟩
              simp only at oc fc xc
              obtain ⟨ca, cc, rfl⟩ := oc.val
              have hin := ints_ev l l _ _ m2 oc.sl (om.ext xc).sl (by omega) (by omega)
              rw [decide_eq_true rfl] at hin
              simp (maxSteps := 1000000) (disch := first | decide | omega | (simp only [go_sem]; first | done | omega)) only [go_sem, Int.reduceToNat, Nat.reduceMul, Nat.reduceAdd, Nat.reduceSub, ↓EU_region, ↓EU_draw, p3, p10, hin]
              repeat refine WPo_ob ?_
              refine (depth_ev gl2 h00.next _ l pl (by omega) m2 ((gr9.ext xm).ext xc)).bind fun m3 xd => ?_
              have x9' : Ext k2 m3 := x9.trans ((xm.trans xc).trans xd)
              by_cases q1 : 1 < l.length
              · have dq : decide (1 < (l.length : Int)) = true := decide_eq_true (by omega)
                have dq' : decide (1 < l.length) = true := decide_eq_true q1
                obtain ⟨b9, p9, c9, e, _, _, hr9⟩ := (om.sl.ext (xc.trans xd)).at (hu2 q1) rfl
                cases e
                have r9 := hr9 0 _ rfl
                rw [Nat.add_zero] at r9
                simp (maxSteps := 1000000) (disch := first | decide | omega | (simp only [go_sem]; first | done | omega)) only [go_sem, Int.reduceToNat, Nat.reduceMul, Nat.reduceAdd, Nat.reduceSub, ↓EU_region, ↓EU_draw, dec_t, dec_f, p3, p10, ds, bs, dq, dq', if_true, r9, wj, wj2]
                exact ⟨18 - (j + 1), by omega, j + 1, _, m3, rfl, rfl, by omega, by simp (maxSteps := 1000000) (disch := first | decide | omega | (simp only [go_sem]; first | done | omega)) only [go_sem, Int.reduceToNat, Nat.reduceMul, Nat.reduceAdd, Nat.reduceSub, ↓EU_region, ↓EU_draw, p0], by simp (maxSteps := 1000000) (disch := first | decide | omega | (simp only [go_sem]; first | done | omega)) only [go_sem, Int.reduceToNat, Nat.reduceMul, Nat.reduceAdd, Nat.reduceSub, ↓EU_region, ↓EU_draw, p3], by simp (maxSteps := 1000000) (disch := first | decide | omega | (simp only [go_sem]; first | done | omega)) only [go_sem, Int.reduceToNat, Nat.reduceMul, Nat.reduceAdd, Nat.reduceSub, ↓EU_region, ↓EU_draw, p4], by simp (maxSteps := 1000000) (disch := first | decide | omega | (simp only [go_sem]; first | done | omega)) only [go_sem, Int.reduceToNat, Nat.reduceMul, Nat.reduceAdd, Nat.reduceSub, ↓EU_region, ↓EU_draw, p5], by simp (maxSteps := 1000000) (disch := first | decide | omega | (simp only [go_sem]; first | done | omega)) only [go_sem, Int.reduceToNat, Nat.reduceMul, Nat.reduceAdd, Nat.reduceSub, ↓EU_region, ↓EU_draw]; exact congrArg (Value.int .i64) (by omega), x9'⟩
              · have dq : decide (1 < (l.length : Int)) = false := decide_eq_false (by omega)
                have dq' : decide (1 < l.length) = false := decide_eq_false q1
                simp (maxSteps := 1000000) (disch := first | decide | omega | (simp only [go_sem]; first | done | omega)) only [go_sem, Int.reduceToNat, Nat.reduceMul, Nat.reduceAdd, Nat.reduceSub, ↓EU_region, ↓EU_draw, dec_t, dec_f, p3, p10, ds, bs, dq, dq', wj, wj2]
                exact ⟨18 - (j + 1), by omega, j + 1, _, m3, rfl, rfl, by omega, by simp (maxSteps := 1000000) (disch := first | decide | omega | (simp only [go_sem]; first | done | omega)) only [go_sem, Int.reduceToNat, Nat.reduceMul, Nat.reduceAdd, Nat.reduceSub, ↓EU_region, ↓EU_draw, p0], by simp (maxSteps := 1000000) (disch := first | decide | omega | (simp only [go_sem]; first | done | omega)) only [go_sem, Int.reduceToNat, Nat.reduceMul, Nat.reduceAdd, Nat.reduceSub, ↓EU_region, ↓EU_draw, p3], by simp (maxSteps := 1000000) (disch := first | decide | omega | (simp only [go_sem]; first | done | omega)) only [go_sem, Int.reduceToNat, Nat.reduceMul, Nat.reduceAdd, Nat.reduceSub, ↓EU_region, ↓EU_draw, p4], by simp (maxSteps := 1000000) (disch := first | decide | omega | (simp only [go_sem]; first | done | omega)) only [go_sem, Int.reduceToNat, Nat.reduceMul, Nat.reduceAdd, Nat.reduceSub, ↓EU_region, ↓EU_draw, p5], by simp (maxSteps := 1000000) (disch := first | decide | omega | (simp only [go_sem]; first | done | omega)) only [go_sem, Int.reduceToNat, Nat.reduceMul, Nat.reduceAdd, Nat.reduceSub, ↓EU_region, ↓EU_draw]; exact congrArg (Value.int .i64) (by omega), x9'⟩
            · have dj : decide ((j : Int) - 1 < 17) = false := decide_eq_false (by omega)
              simp (maxSteps := 1000000) (disch := first | decide | omega | (simp only [go_sem]; first | done | omega)) only [go_sem, Int.reduceToNat, Nat.reduceMul, Nat.reduceAdd, Nat.reduceSub, ↓EU_region, ↓EU_draw, p10, dj]
              exact ⟨_, h9, rfl, trivial, by simp (maxSteps := 1000000) (disch := first | decide | omega | (simp only [go_sem]; first | done | omega)) only [go_sem, Int.reduceToNat, Nat.reduceMul, Nat.reduceAdd, Nat.reduceSub, ↓EU_region, ↓EU_draw, p0], by simp (maxSteps := 1000000) (disch := first | decide | omega | (simp only [go_sem]; first | done | omega)) only [go_sem, Int.reduceToNat, Nat.reduceMul, Nat.reduceAdd, Nat.reduceSub, ↓EU_region, ↓EU_draw, p3], by simp (maxSteps := 1000000) (disch := first | decide | omega | (simp only [go_sem]; first | done | omega)) only [go_sem, Int.reduceToNat, Nat.reduceMul, Nat.reduceAdd, Nat.reduceSub, ↓EU_region, ↓EU_draw, p4], by simp (maxSteps := 1000000) (disch := first | decide | omega | (simp only [go_sem]; first | done | omega)) only [go_sem, Int.reduceToNat, Nat.reduceMul, Nat.reduceAdd, Nat.reduceSub, ↓EU_region, ↓EU_draw, p5], x9⟩
          · exact ⟨0, _, k2, rfl, rfl, by decide, by simp (maxSteps := 1000000) (disch := first | decide | omega | (simp only [go_sem]; first | done | omega)) only [go_sem, Int.reduceToNat, Nat.reduceMul, Nat.reduceAdd, Nat.reduceSub, ↓EU_region, ↓EU_draw, g0], by simp (maxSteps := 1000000) (disch := first | decide | omega | (simp only [go_sem]; first | done | omega)) only [go_sem, Int.reduceToNat, Nat.reduceMul, Nat.reduceAdd, Nat.reduceSub, ↓EU_region, ↓EU_draw, g3], by simp (maxSteps := 1000000) (disch := first | decide | omega | (simp only [go_sem]; first | done | omega)) only [go_sem, Int.reduceToNat, Nat.reduceMul, Nat.reduceAdd, Nat.reduceSub, ↓EU_region, ↓EU_draw, g4], by simp (maxSteps := 1000000) (disch := first | decide | omega | (simp only [go_sem]; first | done | omega)) only [go_sem, Int.reduceToNat, Nat.reduceMul, Nat.reduceAdd, Nat.reduceSub, ↓EU_region, ↓EU_draw, g5], by simp (maxSteps := 1000000) (disch := first | decide | omega | (simp only [go_sem]; first | done | omega)) only [go_sem, Int.reduceToNat, Nat.reduceMul, Nat.reduceAdd, Nat.reduceSub, ↓EU_region, ↓EU_draw]; rfl, Ext.refl _⟩
          · decide
          · rintro ⟨_, _⟩ ⟨tm2, h9, rfl, rfl, p0, p3, p4, p5, x9⟩
            simp (maxSteps := 1000000) (disch := first | decide | omega | (simp only [go_sem]; first | done | omega)) only [go_sem, Int.reduceToNat, Nat.reduceMul, Nat.reduceAdd, Nat.reduceSub, ↓EU_region, ↓EU_draw, p5, hwi]
            exact ⟨ll.length - (i + 1), by omega, i + 1, _, h9, gl2, _, _, rfl, rfl, by omega, by simp (maxSteps := 1000000) (disch := first | decide | omega | (simp only [go_sem]; first | done | omega)) only [go_sem, Int.reduceToNat, Nat.reduceMul, Nat.reduceAdd, Nat.reduceSub, ↓EU_region, ↓EU_draw, p0], by simp (maxSteps := 1000000) (disch := first | decide | omega | (simp only [go_sem]; first | done | omega)) only [go_sem, Int.reduceToNat, Nat.reduceMul, Nat.reduceAdd, Nat.reduceSub, ↓EU_region, ↓EU_draw, p3], by simp (maxSteps := 1000000) (disch := first | decide | omega | (simp only [go_sem]; first | done | omega)) only [go_sem, Int.reduceToNat, Nat.reduceMul, Nat.reduceAdd, Nat.reduceSub, ↓EU_region, ↓EU_draw, p4], by simp (maxSteps := 1000000) (disch := first | decide | omega | (simp only [go_sem]; first | done | omega)) only [go_sem, Int.reduceToNat, Nat.reduceMul, Nat.reduceAdd, Nat.reduceSub, ↓EU_region, ↓EU_draw], grk.ext x9, rrk.ext x9, rl2, gi2, xk.trans x9⟩
        · have dop : decide (op = 1) = false := decide_eq_false qo
          obtain ⟨lu, pu, lu4, _⟩ := gi.2.2 id
          simp (maxSteps := 1000000) (disch := first | decide | omega | (simp only [go_sem]; first | done | omega)) only [go_sem, Int.reduceToNat, Nat.reduceMul, Nat.reduceAdd, Nat.reduceSub, ↓EU_region, ↓EU_draw, g0, g3, g4, g5, d1, hr0, hr1, dop]
          repeat refine WPo_ob ?_
          refine (gadd_ev gl h00.next id lu pu (by omega) h' gr).mono ?_
          rintro ⟨v, h3⟩ ⟨rfl, gr3, m3⟩
          simp only at gr3 m3
          have x3 : Ext h00 h3 := Mod.ext ((x'.mod (fun _ => False)).drop (m3.mono fun j _ q => .inr (by omega)))
          obtain ⟨b3, o3, c3, e, _, _, hr3⟩ := (hl.ext x3).at hx rfl
          cases e
          have hr31 := hr3 1 _ rfl
          simp (maxSteps := 1000000) (disch := first | decide | omega | (simp only [go_sem]; first | done | omega)) only [go_sem, Int.reduceToNat, Nat.reduceMul, Nat.reduceAdd, Nat.reduceSub, ↓EU_region, ↓EU_draw, g0, g3, g4, g5, hr31]
          repeat refine WPo_ob ?_
          refine (radd_ev gl gi U T h1.next id lu pu (by omega) h3 (rr.modO m3 (Ne.symm hBR)) rl).mono ?_
          rintro ⟨v, h4⟩ ⟨rfl, ⟨U2, T2, rr4, rl2⟩, m4⟩
          simp only at rr4 m4
          have gi2 := GI_add gi id pu
          generalize (gaddR gl id lu.length).2.2 = gl2 at *
          have x4 : Ext h00 h4 := Mod.ext ((x3.mod (fun _ => False)).drop (m4.mono fun j _ q => .inr (by omega)))
          simp (maxSteps := 1000000) (disch := first | decide | omega | (simp only [go_sem]; first | done | omega)) only [go_sem, Int.reduceToNat, Nat.reduceMul, Nat.reduceAdd, Nat.reduceSub, ↓EU_region, ↓EU_draw, g0, g3, g4, g5, ds]
          have x5 : Ext h00 h4 := x4
          have grB := gr3.modO m4 hBR
          have rrR := rr4
          -- the rows of all
          repeat refine WPo_ob ?_
          refine (all_ev gl2 h00.next h4 grB).mono ?_
          rintro ⟨v, k1⟩ ⟨oa, fa, xa⟩
          simp only at oa fa xa
          obtain ⟨aa, ac, rfl⟩ := oa.val
          simp (maxSteps := 1000000) (disch := first | decide | omega | (simp only [go_sem]; first | done | omega)) only [go_sem, Int.reduceToNat, Nat.reduceMul, Nat.reduceAdd, Nat.reduceSub, ↓EU_region, ↓EU_draw, g4]
          repeat refine WPo_ob ?_
          refine (rall_ev gl2 _ _ h1.next k1 (rrR.ext xa) rl2).mono ?_
          rintro ⟨v, k2⟩ ⟨ob', fb, xb⟩
          simp only at ob' fb xb
          obtain ⟨ba, bc, rfl⟩ := ob'.val
          have hal := allN_len gl2 16
          have hii := ints_ev (allN gl2 16) (allN gl2 16) _ _ k2 (oa.ext xb).sl ob'.sl (by omega) (by omega)
          rw [decide_eq_true rfl] at hii
          simp (maxSteps := 1000000) (disch := first | decide | omega | (simp only [go_sem]; first | done | omega)) only [go_sem, Int.reduceToNat, Nat.reduceMul, Nat.reduceAdd, Nat.reduceSub, ↓EU_region, ↓EU_draw, hii]
          have grk := (grB.ext xa).ext xb
          have rrk := (rrR.ext xa).ext xb
          have xk : Ext h00 k2 := x5.trans (xa.trans xb)
          repeat refine WPo_ob ?_
          refine (LP_rule (fun m st => ∃ (j : Nat) (tm2 : Fr) (h9 : Heap), st = ⟨tm2, h9, []⟩ ∧ m = 18 - j ∧ j ≤ 18 ∧ Fr.get tm2 0 = .slice (some { block := bb, off := o }) ll.length kl ∧ Fr.get tm2 3 = ptr h00.next 0 ∧ Fr.get tm2 4 = ptr h1.next 0 ∧ Fr.get tm2 5 = .int .i64 i ∧ Fr.get tm2 10 = .int .i64 ((j : Int) - 1) ∧ Ext k2 h9)
            (fun q => ∃ (tm2 : Fr) (h9 : Heap), q.2 = ⟨tm2, h9, []⟩ ∧ q.1 = .exit 2 ∧ Fr.get tm2 0 = .slice (some { block := bb, off := o }) ll.length kl ∧ Fr.get tm2 3 = ptr h00.next 0 ∧ Fr.get tm2 4 = ptr h1.next 0 ∧ Fr.get tm2 5 = .int .i64 i ∧ Ext k2 h9) ?_ 18 _ _ ?_ ?_).mono ?_
          · rintro m _ ⟨j, tm2, h9, rfl, rfl, hj, p0, p3, p4, p5, p10, x9⟩
            by_cases qj : j < 18
            · have dj : decide ((j : Int) - 1 < 17) = true := decide_eq_true (by omega)
              obtain ⟨l, pl, l4, l0⟩ := gi2.2.2 ((j : Int) - 1)
              obtain ⟨hu1, hu2⟩ := up_iff gi2 pl
              have wj : wrapF .i64 ((j : Int) - 1 + 1) = ((j + 1 : Nat) : Int) - 1 := by rw [wrap64 (by omega)]; omega
              have wj2 : (j : Int) - 1 + 1 = ((j + 1 : Nat) : Int) - 1 := by omega
              have gr9 := grk.ext x9
              simp (maxSteps := 1000000) (disch := first | decide | omega | (simp only [go_sem]; first | done | omega)) only [go_sem, Int.reduceToNat, Nat.reduceMul, Nat.reduceAdd, Nat.reduceSub, ↓EU_region, ↓EU_draw, p3, p4, p10, dj]
              repeat refine WPo_ob ?_
              refine (rpath_ev gl2 _ _ h1.next _ l pl (by omega) h9 (rrk.ext x9) rl2).mono ?_
              rintro ⟨v, m1⟩ ⟨om, fm, xm⟩
              simp only at om fm xm
              obtain ⟨ma, mc, rfl⟩ := om.val
              have hup := gup_ev gl2 h00.next ((j : Int) - 1) m1 (gr9.ext xm)
              rw [hu1] at hup
              simp (maxSteps := 1000000) (disch := first | decide | omega | (simp only [go_sem]; first | done | omega)) only [go_sem, Int.reduceToNat, Nat.reduceMul, Nat.reduceAdd, Nat.reduceSub, ↓EU_region, ↓EU_draw, p3, p10, hup]
              repeat refine WPo_ob ?_
              refine (chain_ev gl2 h00.next _ l pl (by omega) m1 (gr9.ext xm)).mono ?_
              rintro ⟨v, m2⟩ ⟨oc, fc, xc⟩
              simp only at oc fc xc
              obtain ⟨ca, cc, rfl⟩ := oc.val
              have hin := ints_ev l l _ _ m2 oc.sl (om.ext xc).sl (by omega) (by omega)
              rw [decide_eq_true rfl] at hin
              simp (maxSteps := 1000000) (disch := first | decide | omega | (simp only [go_sem]; first | done | omega)) only [go_sem, Int.reduceToNat, Nat.reduceMul, Nat.reduceAdd, Nat.reduceSub, ↓EU_region, ↓EU_draw, p3, p10, hin]
              repeat refine WPo_ob ?_
              refine (depth_ev gl2 h00.next _ l pl (by omega) m2 ((gr9.ext xm).ext xc)).bind fun m3 xd => ?_
              have x9' : Ext k2 m3 := x9.trans ((xm.trans xc).trans xd)
              by_cases q1 : 1 < l.length
              · have dq : decide (1 < (l.length : Int)) = true := decide_eq_true (by omega)
                have dq' : decide (1 < l.length) = true := decide_eq_true q1
                obtain ⟨b9, p9, c9, e, _, _, hr9⟩ := (om.sl.ext (xc.trans xd)).at (hu2 q1) rfl
                cases e
                have r9 := hr9 0 _ rfl
                rw [Nat.add_zero] at r9
                simp (maxSteps := 1000000) (disch := first | decide | omega | (simp only [go_sem]; first | done | omega)) only [go_sem, Int.reduceToNat, Nat.reduceMul, Nat.reduceAdd, Nat.reduceSub, ↓EU_region, ↓EU_draw, dec_t, dec_f, p3, p10, ds, bs, dq, dq', if_true, r9, wj, wj2]
                exact ⟨18 - (j + 1), by omega, j + 1, _, m3, rfl, rfl, by omega, by simp (maxSteps := 1000000) (disch := first | decide | omega | (simp only [go_sem]; first | done | omega)) only [go_sem, Int.reduceToNat, Nat.reduceMul, Nat.reduceAdd, Nat.reduceSub, ↓EU_region, ↓EU_draw, p0], by simp (maxSteps := 1000000) (disch := first | decide | omega | (simp only [go_sem]; first | done | omega)) only [go_sem, Int.reduceToNat, Nat.reduceMul, Nat.reduceAdd, Nat.reduceSub, ↓EU_region, ↓EU_draw, p3], by simp (maxSteps := 1000000) (disch := first | decide | omega | (simp only [go_sem]; first | done | omega)) only [go_sem, Int.reduceToNat, Nat.reduceMul, Nat.reduceAdd, Nat.reduceSub, ↓EU_region, ↓EU_draw, p4], by simp (maxSteps := 1000000) (disch := first | decide | omega | (simp only [go_sem]; first | done | omega)) only [go_sem, Int.reduceToNat, Nat.reduceMul, Nat.reduceAdd, Nat.reduceSub, ↓EU_region, ↓EU_draw, p5], by simp (maxSteps := 1000000) (disch := first | decide | omega | (simp only [go_sem]; first | done | omega)) only [go_sem, Int.reduceToNat, Nat.reduceMul, Nat.reduceAdd, Nat.reduceSub, ↓EU_region, ↓EU_draw]; exact congrArg (Value.int .i64) (by omega), x9'⟩
              · have dq : decide (1 < (l.length : Int)) = false := decide_eq_false (by omega)
                have dq' : decide (1 < l.length) = false := decide_eq_false q1
                simp (maxSteps := 1000000) (disch := first | decide | omega | (simp only [go_sem]; first | done | omega)) only [go_sem, Int.reduceToNat, Nat.reduceMul, Nat.reduceAdd, Nat.reduceSub, ↓EU_region, ↓EU_draw, dec_t, dec_f, p3, p10, ds, bs, dq, dq', wj, wj2]
                exact ⟨18 - (j + 1), by omega, j + 1, _, m3, rfl, rfl, by omega, by simp (maxSteps := 1000000) (disch := first | decide | omega | (simp only [go_sem]; first | done | omega)) only [go_sem, Int.reduceToNat, Nat.reduceMul, Nat.reduceAdd, Nat.reduceSub, ↓EU_region, ↓EU_draw, p0], by simp (maxSteps := 1000000) (disch := first | decide | omega | (simp only [go_sem]; first | done | omega)) only [go_sem, Int.reduceToNat, Nat.reduceMul, Nat.reduceAdd, Nat.reduceSub, ↓EU_region, ↓EU_draw, p3], by simp (maxSteps := 1000000) (disch := first | decide | omega | (simp only [go_sem]; first | done | omega)) only [go_sem, Int.reduceToNat, Nat.reduceMul, Nat.reduceAdd, Nat.reduceSub, ↓EU_region, ↓EU_draw, p4], by simp (maxSteps := 1000000) (disch := first | decide | omega | (simp only [go_sem]; first | done | omega)) only [go_sem, Int.reduceToNat, Nat.reduceMul, Nat.reduceAdd, Nat.reduceSub, ↓EU_region, ↓EU_draw, p5], by simp (maxSteps := 1000000) (disch := first | decide | omega | (simp only [go_sem]; first | done | omega)) only [go_sem, Int.reduceToNat, Nat.reduceMul, Nat.reduceAdd, Nat.reduceSub, ↓EU_region, ↓EU_draw]; exact congrArg (Value.int .i64) (by omega), x9'⟩
            · have dj : decide ((j : Int) - 1 < 17) = false := decide_eq_false (by omega)
              simp (maxSteps := 1000000) (disch := first | decide | omega | (simp only [go_sem]; first | done | omega)) only [go_sem, Int.reduceToNat, Nat.reduceMul, Nat.reduceAdd, Nat.reduceSub, ↓EU_region, ↓EU_draw, p10, dj]
              exact ⟨_, h9, rfl, trivial, by simp (maxSteps := 1000000) (disch := first | decide | omega | (simp only [go_sem]; first | done | omega)) only [go_sem, Int.reduceToNat, Nat.reduceMul, Nat.reduceAdd, Nat.reduceSub, ↓EU_region, ↓EU_draw, p0], by simp (maxSteps := 1000000) (disch := first | decide | omega | (simp only [go_sem]; first | done | omega)) only [go_sem, Int.reduceToNat, Nat.reduceMul, Nat.reduceAdd, Nat.reduceSub, ↓EU_region, ↓EU_draw, p3], by simp (maxSteps := 1000000) (disch := first | decide | omega | (simp only [go_sem]; first | done | omega)) only [go_sem, Int.reduceToNat, Nat.reduceMul, Nat.reduceAdd, Nat.reduceSub, ↓EU_region, ↓EU_draw, p4], by simp (maxSteps := 1000000) (disch := first | decide | omega | (simp only [go_sem]; first | done | omega)) only [go_sem, Int.reduceToNat, Nat.reduceMul, Nat.reduceAdd, Nat.reduceSub, ↓EU_region, ↓EU_draw, p5], x9⟩
          · exact ⟨0, _, k2, rfl, rfl, by decide, by simp (maxSteps := 1000000) (disch := first | decide | omega | (simp only [go_sem]; first | done | omega)) only [go_sem, Int.reduceToNat, Nat.reduceMul, Nat.reduceAdd, Nat.reduceSub, ↓EU_region, ↓EU_draw, g0], by simp (maxSteps := 1000000) (disch := first | decide | omega | (simp only [go_sem]; first | done | omega)) only [go_sem, Int.reduceToNat, Nat.reduceMul, Nat.reduceAdd, Nat.reduceSub, ↓EU_region, ↓EU_draw, g3], by simp (maxSteps := 1000000) (disch := first | decide | omega | (simp only [go_sem]; first | done | omega)) only [go_sem, Int.reduceToNat, Nat.reduceMul, Nat.reduceAdd, Nat.reduceSub, ↓EU_region, ↓EU_draw, g4], by simp (maxSteps := 1000000) (disch := first | decide | omega | (simp only [go_sem]; first | done | omega)) only [go_sem, Int.reduceToNat, Nat.reduceMul, Nat.reduceAdd, Nat.reduceSub, ↓EU_region, ↓EU_draw, g5], by simp (maxSteps := 1000000) (disch := first | decide | omega | (simp only [go_sem]; first | done | omega)) only [go_sem, Int.reduceToNat, Nat.reduceMul, Nat.reduceAdd, Nat.reduceSub, ↓EU_region, ↓EU_draw]; rfl, Ext.refl _⟩
          · decide
          · rintro ⟨_, _⟩ ⟨tm2, h9, rfl, rfl, p0, p3, p4, p5, x9⟩
            simp (maxSteps := 1000000) (disch := first | decide | omega | (simp only [go_sem]; first | done | omega)) only [go_sem, Int.reduceToNat, Nat.reduceMul, Nat.reduceAdd, Nat.reduceSub, ↓EU_region, ↓EU_draw, p5, hwi]
            exact ⟨ll.length - (i + 1), by omega, i + 1, _, h9, gl2, _, _, rfl, rfl, by omega, by simp (maxSteps := 1000000) (disch := first | decide | omega | (simp only [go_sem]; first | done | omega)) only [go_sem, Int.reduceToNat, Nat.reduceMul, Nat.reduceAdd, Nat.reduceSub, ↓EU_region, ↓EU_draw, p0], by simp (maxSteps := 1000000) (disch := first | decide | omega | (simp only [go_sem]; first | done | omega)) only [go_sem, Int.reduceToNat, Nat.reduceMul, Nat.reduceAdd, Nat.reduceSub, ↓EU_region, ↓EU_draw, p3], by simp (maxSteps := 1000000) (disch := first | decide | omega | (simp only [go_sem]; first | done | omega)) only [go_sem, Int.reduceToNat, Nat.reduceMul, Nat.reduceAdd, Nat.reduceSub, ↓EU_region, ↓EU_draw, p4], by simp (maxSteps := 1000000) (disch := first | decide | omega | (simp only [go_sem]; first | done | omega)) only [go_sem, Int.reduceToNat, Nat.reduceMul, Nat.reduceAdd, Nat.reduceSub, ↓EU_region, ↓EU_draw], grk.ext x9, rrk.ext x9, rl2, gi2, xk.trans x9⟩
      · have d1 : decide ((i : Int) < ll.length) = false := decide_eq_false (by omega)
        simp (maxSteps := 1000000) (disch := first | decide | omega | (simp only [go_sem]; first | done | omega)) only [go_sem, Int.reduceToNat, Nat.reduceMul, Nat.reduceAdd, Nat.reduceSub, ↓EU_region, ↓EU_draw, g0, g5, d1]
        exact ⟨_, h', rfl, trivial⟩
    · exact ⟨0, _, h2, gl0, U0, T0, rfl, rfl, by omega, by simp (maxSteps := 1000000) (disch := first | decide | omega | (simp only [go_sem]; first | done | omega)) only [go_sem, Int.reduceToNat, Nat.reduceMul, Nat.reduceAdd, Nat.reduceSub, ↓EU_region, ↓EU_draw], by simp (maxSteps := 1000000) (disch := first | decide | omega | (simp only [go_sem]; first | done | omega)) only [go_sem, Int.reduceToNat, Nat.reduceMul, Nat.reduceAdd, Nat.reduceSub, ↓EU_region, ↓EU_draw], by simp (maxSteps := 1000000) (disch := first | decide | omega | (simp only [go_sem]; first | done | omega)) only [go_sem, Int.reduceToNat, Nat.reduceMul, Nat.reduceAdd, Nat.reduceSub, ↓EU_region, ↓EU_draw], by simp (maxSteps := 1000000) (disch := first | decide | omega | (simp only [go_sem]; first | done | omega)) only [go_sem, Int.reduceToNat, Nat.reduceMul, Nat.reduceAdd, Nat.reduceSub, ↓EU_region, ↓EU_draw]; rfl, gr1.ext x2, rr2, RL0, GI0, x1.trans x2⟩
    · omega
    · rintro ⟨_, _⟩ ⟨tm, h', rfl, rfl⟩
      simp (maxSteps := 1000000) (disch := first | decide | omega | (simp only [go_sem]; first | done | omega)) only [go_sem, Int.reduceToNat, Nat.reduceMul, Nat.reduceAdd, Nat.reduceSub, ↓EU_region, ↓EU_draw]
end Go.Proofs.Ytagjgigknnaphaa.EV
