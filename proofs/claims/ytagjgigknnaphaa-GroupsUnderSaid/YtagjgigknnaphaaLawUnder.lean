/- GroupsUnder, plainly. No condition. -/
import Derived.Test.YtagjgigknnaphaaGrp7
namespace Go.Proofs.Ytagjgigknnaphaa.EV
open Go Go.Proofs
set_option linter.unusedVariables false
set_option linter.unusedSimpArgs false
set_option maxRecDepth 100000
set_option pp.deepTerms false
set_option pp.deepTerms.threshold 20
theorem GR.mod {h h' : Heap} {B : Nat} {gl gl' : List Gp} (g : GR h' B gl') : GR h' B gl' := g
/-- upwards through a third one -/
theorem under_trans {gl : List Gp} {a b c : Int} {la lb : List Int} (pa : PA gl a la) (pb : PA gl b lb) (h1 : la.contains b = true) (h2 : lb.contains c = true) : la.contains c = true := by
  rw [List.contains_iff_mem] at *
  obtain ⟨p, m, rfl, pm, _⟩ := pa.suffix b h1
  rw [pm.uniq pb]
  exact List.mem_append_right _ h2
theorem under_anti {gl : List Gp} {a b : Int} {la lb : List Int} (pa : PA gl a la) (pb : PA gl b lb) (h1 : la.contains b = true) (h2 : lb.contains a = true) : a = b := by
  rw [List.contains_iff_mem] at *
  obtain ⟨p, m, e1, pm, k⟩ := pa.suffix b h1
  obtain ⟨p', m', e2, pm', k'⟩ := pb.suffix a h2
  have e3 := pm.uniq pb
  have e4 := pm'.uniq pa
  subst e3
  subst e4
  have h1 := congrArg List.length e1
  have h2 := congrArg List.length e2
  rw [List.length_append] at h1 h2
  have : p.length = 0 := by omega
  exact (k (List.eq_nil_of_length_eq_zero this)).symm
theorem under_self {gl : List Gp} {a : Int} {la : List Int} (pa : PA gl a la) (h : la ≠ []) : la.contains a = true := by
  rcases pa.head with ⟨_, e⟩ | ⟨_, m, e, _⟩
  · exact (h e).elim
  · rw [List.contains_iff_mem, e]; simp
theorem under_top {la : List Int} (h : la.getLast? = some 0) : la.contains 0 = true := by
  rw [List.contains_iff_mem]
  exact List.mem_of_getLast? h
theorem contains_take {l : List Int} {b : Int} {i : Nat} {x : Int} (hx : l[i]? = some x) : (l.take (i + 1)).contains b = ((l.take i).contains b || decide (x = b)) := by
  rw [List.take_add_one, hx, Option.toList_some]
  cases h1 : (l.take i).contains b with
  | true =>
    rw [Bool.true_or]
    rw [List.contains_iff_mem] at h1 ⊢
    exact List.mem_append_left _ h1
  | false =>
    rw [Bool.false_or]
    by_cases q : x = b
    · rw [decide_eq_true q, List.contains_iff_mem, q]
      exact List.mem_append_right _ (List.mem_singleton.2 rfl)
    · rw [decide_eq_false q, Bool.eq_false_iff]
      intro hc
      rw [List.contains_iff_mem, List.mem_append] at hc
      rcases hc with hc | hc
      · rw [← List.contains_iff_mem, h1] at hc
        cases hc
      · exact q (List.mem_singleton.1 hc).symm
set_option maxHeartbeats 8000000 in
theorem law_GroupsUnder (h00 : Heap) (sl : Value) (ll : List Int) (hl : SL (intE .i64) 1 h00 sl ll) (wl : ∀ z ∈ ll, (Lit.int .i64 z).wf = true) (a : Int) (wa : (Lit.int .i64 a).wf = true) (b : Int) (wb : (Lit.int .i64 b).wf = true) (c : Int) (wc : (Lit.int .i64 c).wf = true) :
    WPo (EF Try.prog O0 3 [sl, .int .i64 a, .int .i64 b, .int .i64 c] h00) fun q => q.1 = .bool true := by
  rw [EF_body (O := O0) (by kernel_rfl) Try.func3 rfl (rs := [.tmp 8]) rfl (bad := []) (by kernel_rfl) _ _ (m := 111) rfl]
  obtain ⟨al, kl, hv⟩ := hl.val
  subst hv
  simp (maxSteps := 1000000) (disch := first | decide | omega | (simp only [go_sem]; first | done | omega)) only [go_sem, Int.reduceToNat, Nat.reduceMul, Nat.reduceAdd, Nat.reduceSub, ↓EU_region, ↓EU_draw, awake_ev]
  ((repeat refine WPo_ob ?_); (first | refine WPo_cond (fun b1 => ?_) (fun b1 => ?_) | refine WPo_gard (fun b1 => ?_) (fun b1 => ?_) | refine WPo_gardT (fun b1 => ?_) (fun b1 => ?_)) <;> (try simp only [Bool.not_eq_true', Bool.not_eq_false'] at b1))
  · simp (maxSteps := 1000000) (disch := first | decide | omega | (simp only [go_sem]; first | done | omega)) only [go_sem, Int.reduceToNat, Nat.reduceMul, Nat.reduceAdd, Nat.reduceSub, ↓EU_region, ↓EU_draw, b1]
  · have b1' := b1
    simp only [decide_eq_false_iff_not] at b1'
    simp (maxSteps := 1000000) (disch := first | decide | omega | (simp only [go_sem]; first | done | omega)) only [go_sem, Int.reduceToNat, Nat.reduceMul, Nat.reduceAdd, Nat.reduceSub, ↓EU_region, ↓EU_draw, b1]
    repeat refine WPo_ob ?_
    refine (gnew_ev h00).mono ?_
    rintro ⟨v, h1⟩ ⟨rfl, gr1, x1⟩
    simp only at gr1 x1
    simp (maxSteps := 1000000) (disch := first | decide | omega | (simp only [go_sem]; first | done | omega)) only [go_sem, Int.reduceToNat, Nat.reduceMul, Nat.reduceAdd, Nat.reduceSub, ↓EU_region, ↓EU_draw]
    repeat refine WPo_ob ?_
    refine (LP_rule (fun m st => ∃ (i : Nat) (tm : Fr) (h' : Heap) (gl : List Gp), st = ⟨tm, h', []⟩ ∧ m = ll.length - i ∧ i ≤ ll.length ∧ Fr.get tm 0 = .slice al ll.length kl ∧ Fr.get tm 1 = .int .i64 a ∧ Fr.get tm 2 = .int .i64 b ∧ Fr.get tm 3 = .int .i64 c ∧ Fr.get tm 9 = ptr h00.next 0 ∧ Fr.get tm 10 = .int .i64 i ∧ GR h' h00.next gl ∧ GI gl ∧ Ext h00 h')
      (fun q => ∃ (tm : Fr) (h' : Heap) (gl : List Gp), q.2 = ⟨tm, h', []⟩ ∧ q.1 = .exit 0 ∧ Fr.get tm 1 = .int .i64 a ∧ Fr.get tm 2 = .int .i64 b ∧ Fr.get tm 3 = .int .i64 c ∧ Fr.get tm 9 = ptr h00.next 0 ∧ GR h' h00.next gl ∧ GI gl) ?_ ll.length _ _ ?_ ?_).mono ?_
    · rintro m _ ⟨i, tm, h', gl, rfl, rfl, hi, g0, g1, g2, g3, g9, g10, gr, gi, x'⟩
      by_cases q : i < ll.length
      · have d1 : decide ((i : Int) < ll.length) = true := decide_eq_true (by omega)
        obtain ⟨x, hx⟩ : ∃ x, ll[i]? = some x := ⟨_, List.getElem?_eq_getElem q⟩
        obtain ⟨bb, o, c', e, hb', hrd, hr⟩ := (hl.ext x').at hx rfl
        cases e
        have hr0 := hr 0 _ rfl
        rw [add_z] at hr0
        obtain ⟨lu, pu, lu4, _⟩ := gi.2.2 x
        have hwi : wrapF .i64 ((i : Int) + 1) = ((i + 1 : Nat) : Int) := by rw [wrap64 (by omega)]; rfl
        simp (maxSteps := 1000000) (disch := first | decide | omega | (simp only [go_sem]; first | done | omega)) only [go_sem, Int.reduceToNat, Nat.reduceMul, Nat.reduceAdd, Nat.reduceSub, ↓EU_region, ↓EU_draw, g0, g9, g10, d1, hr0]
        repeat refine WPo_ob ?_
        refine (gadd_ev gl h00.next x lu pu (by omega) h' gr).mono ?_
        rintro ⟨v, h2⟩ ⟨rfl, gr2, m2⟩
        simp only at gr2 m2
        have gi2 := GI_add gi x pu
        simp (maxSteps := 1000000) (disch := first | decide | omega | (simp only [go_sem]; first | done | omega)) only [go_sem, Int.reduceToNat, Nat.reduceMul, Nat.reduceAdd, Nat.reduceSub, ↓EU_region, ↓EU_draw, g10, hwi]
        refine ⟨ll.length - (i + 1), by omega, i + 1, _, h2, _, rfl, rfl, by omega, by simp (maxSteps := 1000000) (disch := first | decide | omega | (simp only [go_sem]; first | done | omega)) only [go_sem, Int.reduceToNat, Nat.reduceMul, Nat.reduceAdd, Nat.reduceSub, ↓EU_region, ↓EU_draw, g0], by simp (maxSteps := 1000000) (disch := first | decide | omega | (simp only [go_sem]; first | done | omega)) only [go_sem, Int.reduceToNat, Nat.reduceMul, Nat.reduceAdd, Nat.reduceSub, ↓EU_region, ↓EU_draw, g1], by simp (maxSteps := 1000000) (disch := first | decide | omega | (simp only [go_sem]; first | done | omega)) only [go_sem, Int.reduceToNat, Nat.reduceMul, Nat.reduceAdd, Nat.reduceSub, ↓EU_region, ↓EU_draw, g2], by simp (maxSteps := 1000000) (disch := first | decide | omega | (simp only [go_sem]; first | done | omega)) only [go_sem, Int.reduceToNat, Nat.reduceMul, Nat.reduceAdd, Nat.reduceSub, ↓EU_region, ↓EU_draw, g3], by simp (maxSteps := 1000000) (disch := first | decide | omega | (simp only [go_sem]; first | done | omega)) only [go_sem, Int.reduceToNat, Nat.reduceMul, Nat.reduceAdd, Nat.reduceSub, ↓EU_region, ↓EU_draw, g9], by simp (maxSteps := 1000000) (disch := first | decide | omega | (simp only [go_sem]; first | done | omega)) only [go_sem, Int.reduceToNat, Nat.reduceMul, Nat.reduceAdd, Nat.reduceSub, ↓EU_region, ↓EU_draw], gr2, gi2, ?_⟩
        exact Mod.ext ((x'.mod (fun _ => False)).drop (m2.mono fun j _ q => .inr (by omega)))
      · have d1 : decide ((i : Int) < ll.length) = false := decide_eq_false (by omega)
        simp (maxSteps := 1000000) (disch := first | decide | omega | (simp only [go_sem]; first | done | omega)) only [go_sem, Int.reduceToNat, Nat.reduceMul, Nat.reduceAdd, Nat.reduceSub, ↓EU_region, ↓EU_draw, g0, g10, d1]
        exact ⟨_, h', gl, rfl, trivial, by simp (maxSteps := 1000000) (disch := first | decide | omega | (simp only [go_sem]; first | done | omega)) only [go_sem, Int.reduceToNat, Nat.reduceMul, Nat.reduceAdd, Nat.reduceSub, ↓EU_region, ↓EU_draw, g1], by simp (maxSteps := 1000000) (disch := first | decide | omega | (simp only [go_sem]; first | done | omega)) only [go_sem, Int.reduceToNat, Nat.reduceMul, Nat.reduceAdd, Nat.reduceSub, ↓EU_region, ↓EU_draw, g2], by simp (maxSteps := 1000000) (disch := first | decide | omega | (simp only [go_sem]; first | done | omega)) only [go_sem, Int.reduceToNat, Nat.reduceMul, Nat.reduceAdd, Nat.reduceSub, ↓EU_region, ↓EU_draw, g3], by simp (maxSteps := 1000000) (disch := first | decide | omega | (simp only [go_sem]; first | done | omega)) only [go_sem, Int.reduceToNat, Nat.reduceMul, Nat.reduceAdd, Nat.reduceSub, ↓EU_region, ↓EU_draw, g9], gr, gi⟩
    · exact ⟨0, _, h1, gl0, rfl, rfl, by omega, by simp (maxSteps := 1000000) (disch := first | decide | omega | (simp only [go_sem]; first | done | omega)) only [go_sem, Int.reduceToNat, Nat.reduceMul, Nat.reduceAdd, Nat.reduceSub, ↓EU_region, ↓EU_draw], by simp (maxSteps := 1000000) (disch := first | decide | omega | (simp only [go_sem]; first | done | omega)) only [go_sem, Int.reduceToNat, Nat.reduceMul, Nat.reduceAdd, Nat.reduceSub, ↓EU_region, ↓EU_draw], by simp (maxSteps := 1000000) (disch := first | decide | omega | (simp only [go_sem]; first | done | omega)) only [go_sem, Int.reduceToNat, Nat.reduceMul, Nat.reduceAdd, Nat.reduceSub, ↓EU_region, ↓EU_draw], by simp (maxSteps := 1000000) (disch := first | decide | omega | (simp only [go_sem]; first | done | omega)) only [go_sem, Int.reduceToNat, Nat.reduceMul, Nat.reduceAdd, Nat.reduceSub, ↓EU_region, ↓EU_draw], by simp (maxSteps := 1000000) (disch := first | decide | omega | (simp only [go_sem]; first | done | omega)) only [go_sem, Int.reduceToNat, Nat.reduceMul, Nat.reduceAdd, Nat.reduceSub, ↓EU_region, ↓EU_draw], by simp (maxSteps := 1000000) (disch := first | decide | omega | (simp only [go_sem]; first | done | omega)) only [go_sem, Int.reduceToNat, Nat.reduceMul, Nat.reduceAdd, Nat.reduceSub, ↓EU_region, ↓EU_draw]; rfl, gr1, GI0, x1⟩
    · omega
    · rintro ⟨_, _⟩ ⟨tm, h2, gl, rfl, rfl, g1, g2, g3, g9, gr, gi⟩
      obtain ⟨la, pa, la4, la0⟩ := gi.2.2 a
      obtain ⟨lb, pb, lb4, lb0⟩ := gi.2.2 b
      simp (maxSteps := 1000000) (disch := first | decide | omega | (simp only [go_sem]; first | done | omega)) only [go_sem, Int.reduceToNat, Nat.reduceMul, Nat.reduceAdd, Nat.reduceSub, ↓EU_region, ↓EU_draw, g1, g9]
      repeat refine WPo_ob ?_
      refine (chain_ev gl h00.next a la pa (by omega) h2 gr).mono ?_
      rintro ⟨v, h3⟩ ⟨op, fp, x3⟩
      simp only at op fp x3
      obtain ⟨pva, pvc, rfl⟩ := op.val
      have gr3 := gr.ext x3
      simp (maxSteps := 1000000) (disch := first | decide | omega | (simp only [go_sem]; first | done | omega)) only [go_sem, Int.reduceToNat, Nat.reduceMul, Nat.reduceAdd, Nat.reduceSub, ↓EU_region, ↓EU_draw]
      repeat refine WPo_ob ?_
      refine (LP_rule (fun m st => ∃ (i : Nat) (tm : Fr), st = ⟨tm, h3, []⟩ ∧ m = la.length - i ∧ i ≤ la.length ∧ Fr.get tm 1 = .int .i64 a ∧ Fr.get tm 2 = .int .i64 b ∧ Fr.get tm 3 = .int .i64 c ∧ Fr.get tm 9 = ptr h00.next 0 ∧ Fr.get tm 11 = .slice pva la.length pvc ∧ Fr.get tm 12 = .bool ((la.take i).contains b) ∧ Fr.get tm 13 = .int .i64 i)
        (fun q => ∃ (tm : Fr), q.2 = ⟨tm, h3, []⟩ ∧ q.1 = .exit 2 ∧ Fr.get tm 1 = .int .i64 a ∧ Fr.get tm 2 = .int .i64 b ∧ Fr.get tm 3 = .int .i64 c ∧ Fr.get tm 9 = ptr h00.next 0 ∧ Fr.get tm 11 = .slice pva la.length pvc ∧ Fr.get tm 12 = .bool (la.contains b)) ?_ la.length _ _ ?_ ?_).mono ?_
      · clear g1 g2 g3 g9
        rintro m _ ⟨i, tm, rfl, rfl, hi, g1, g2, g3, g9, g11, g12, g13⟩
        by_cases q : i < la.length
        · have d1 : decide ((i : Int) < la.length) = true := decide_eq_true (by omega)
          obtain ⟨x, hx⟩ : ∃ x, la[i]? = some x := ⟨_, List.getElem?_eq_getElem q⟩
          obtain ⟨bb, o, c', e, hb', hrd, hr⟩ := op.sl.at hx rfl
          cases e
          have hr0 := hr 0 _ rfl
          rw [add_z] at hr0
          have hwi : wrapF .i64 ((i : Int) + 1) = ((i + 1 : Nat) : Int) := by rw [wrap64 (by omega)]; rfl
          have hct := contains_take (b := b) hx
          cases hcb : (la.take i).contains b with
          | true =>
            rw [hcb] at g12 hct
            simp (maxSteps := 1000000) (disch := first | decide | omega | (simp only [go_sem]; first | done | omega)) only [go_sem, Int.reduceToNat, Nat.reduceMul, Nat.reduceAdd, Nat.reduceSub, ↓EU_region, ↓EU_draw, g2, g11, g12, g13, d1, hr0, hwi]
            exact ⟨la.length - (i + 1), by omega, i + 1, _, rfl, rfl, by omega, by simp (maxSteps := 1000000) (disch := first | decide | omega | (simp only [go_sem]; first | done | omega)) only [go_sem, Int.reduceToNat, Nat.reduceMul, Nat.reduceAdd, Nat.reduceSub, ↓EU_region, ↓EU_draw, g1], by simp (maxSteps := 1000000) (disch := first | decide | omega | (simp only [go_sem]; first | done | omega)) only [go_sem, Int.reduceToNat, Nat.reduceMul, Nat.reduceAdd, Nat.reduceSub, ↓EU_region, ↓EU_draw, g2], by simp (maxSteps := 1000000) (disch := first | decide | omega | (simp only [go_sem]; first | done | omega)) only [go_sem, Int.reduceToNat, Nat.reduceMul, Nat.reduceAdd, Nat.reduceSub, ↓EU_region, ↓EU_draw, g3], by simp (maxSteps := 1000000) (disch := first | decide | omega | (simp only [go_sem]; first | done | omega)) only [go_sem, Int.reduceToNat, Nat.reduceMul, Nat.reduceAdd, Nat.reduceSub, ↓EU_region, ↓EU_draw, g9], by simp (maxSteps := 1000000) (disch := first | decide | omega | (simp only [go_sem]; first | done | omega)) only [go_sem, Int.reduceToNat, Nat.reduceMul, Nat.reduceAdd, Nat.reduceSub, ↓EU_region, ↓EU_draw, g11], by rw [hct]; simp (maxSteps := 1000000) (disch := first | decide | omega | (simp only [go_sem]; first | done | omega)) only [go_sem, Int.reduceToNat, Nat.reduceMul, Nat.reduceAdd, Nat.reduceSub, ↓EU_region, ↓EU_draw]; rfl, by simp (maxSteps := 1000000) (disch := first | decide | omega | (simp only [go_sem]; first | done | omega)) only [go_sem, Int.reduceToNat, Nat.reduceMul, Nat.reduceAdd, Nat.reduceSub, ↓EU_region, ↓EU_draw]⟩
          | false =>
            rw [hcb] at g12 hct
            simp (maxSteps := 1000000) (disch := first | decide | omega | (simp only [go_sem]; first | done | omega)) only [go_sem, Int.reduceToNat, Nat.reduceMul, Nat.reduceAdd, Nat.reduceSub, ↓EU_region, ↓EU_draw, g2, g11, g12, g13, d1, hr0, hwi]
            exact ⟨la.length - (i + 1), by omega, i + 1, _, rfl, rfl, by omega, by simp (maxSteps := 1000000) (disch := first | decide | omega | (simp only [go_sem]; first | done | omega)) only [go_sem, Int.reduceToNat, Nat.reduceMul, Nat.reduceAdd, Nat.reduceSub, ↓EU_region, ↓EU_draw, g1], by simp (maxSteps := 1000000) (disch := first | decide | omega | (simp only [go_sem]; first | done | omega)) only [go_sem, Int.reduceToNat, Nat.reduceMul, Nat.reduceAdd, Nat.reduceSub, ↓EU_region, ↓EU_draw, g2], by simp (maxSteps := 1000000) (disch := first | decide | omega | (simp only [go_sem]; first | done | omega)) only [go_sem, Int.reduceToNat, Nat.reduceMul, Nat.reduceAdd, Nat.reduceSub, ↓EU_region, ↓EU_draw, g3], by simp (maxSteps := 1000000) (disch := first | decide | omega | (simp only [go_sem]; first | done | omega)) only [go_sem, Int.reduceToNat, Nat.reduceMul, Nat.reduceAdd, Nat.reduceSub, ↓EU_region, ↓EU_draw, g9], by simp (maxSteps := 1000000) (disch := first | decide | omega | (simp only [go_sem]; first | done | omega)) only [go_sem, Int.reduceToNat, Nat.reduceMul, Nat.reduceAdd, Nat.reduceSub, ↓EU_region, ↓EU_draw, g11], by rw [hct]; simp (maxSteps := 1000000) (disch := first | decide | omega | (simp only [go_sem]; first | done | omega)) only [go_sem, Int.reduceToNat, Nat.reduceMul, Nat.reduceAdd, Nat.reduceSub, ↓EU_region, ↓EU_draw]; rfl, by simp (maxSteps := 1000000) (disch := first | decide | omega | (simp only [go_sem]; first | done | omega)) only [go_sem, Int.reduceToNat, Nat.reduceMul, Nat.reduceAdd, Nat.reduceSub, ↓EU_region, ↓EU_draw]⟩
        · have d1 : decide ((i : Int) < la.length) = false := decide_eq_false (by omega)
          have ei : i = la.length := by omega
          subst ei
          rw [List.take_length] at g12
          simp (maxSteps := 1000000) (disch := first | decide | omega | (simp only [go_sem]; first | done | omega)) only [go_sem, Int.reduceToNat, Nat.reduceMul, Nat.reduceAdd, Nat.reduceSub, ↓EU_region, ↓EU_draw, g11, g13, d1]
          exact ⟨_, rfl, trivial, by simp (maxSteps := 1000000) (disch := first | decide | omega | (simp only [go_sem]; first | done | omega)) only [go_sem, Int.reduceToNat, Nat.reduceMul, Nat.reduceAdd, Nat.reduceSub, ↓EU_region, ↓EU_draw, g1], by simp (maxSteps := 1000000) (disch := first | decide | omega | (simp only [go_sem]; first | done | omega)) only [go_sem, Int.reduceToNat, Nat.reduceMul, Nat.reduceAdd, Nat.reduceSub, ↓EU_region, ↓EU_draw, g2], by simp (maxSteps := 1000000) (disch := first | decide | omega | (simp only [go_sem]; first | done | omega)) only [go_sem, Int.reduceToNat, Nat.reduceMul, Nat.reduceAdd, Nat.reduceSub, ↓EU_region, ↓EU_draw, g3], by simp (maxSteps := 1000000) (disch := first | decide | omega | (simp only [go_sem]; first | done | omega)) only [go_sem, Int.reduceToNat, Nat.reduceMul, Nat.reduceAdd, Nat.reduceSub, ↓EU_region, ↓EU_draw, g9], by simp (maxSteps := 1000000) (disch := first | decide | omega | (simp only [go_sem]; first | done | omega)) only [go_sem, Int.reduceToNat, Nat.reduceMul, Nat.reduceAdd, Nat.reduceSub, ↓EU_region, ↓EU_draw, g11], by simp (maxSteps := 1000000) (disch := first | decide | omega | (simp only [go_sem]; first | done | omega)) only [go_sem, Int.reduceToNat, Nat.reduceMul, Nat.reduceAdd, Nat.reduceSub, ↓EU_region, ↓EU_draw, g12]⟩
      · exact ⟨0, _, rfl, rfl, by omega, by simp (maxSteps := 1000000) (disch := first | decide | omega | (simp only [go_sem]; first | done | omega)) only [go_sem, Int.reduceToNat, Nat.reduceMul, Nat.reduceAdd, Nat.reduceSub, ↓EU_region, ↓EU_draw, g1], by simp (maxSteps := 1000000) (disch := first | decide | omega | (simp only [go_sem]; first | done | omega)) only [go_sem, Int.reduceToNat, Nat.reduceMul, Nat.reduceAdd, Nat.reduceSub, ↓EU_region, ↓EU_draw, g2], by simp (maxSteps := 1000000) (disch := first | decide | omega | (simp only [go_sem]; first | done | omega)) only [go_sem, Int.reduceToNat, Nat.reduceMul, Nat.reduceAdd, Nat.reduceSub, ↓EU_region, ↓EU_draw, g3], by simp (maxSteps := 1000000) (disch := first | decide | omega | (simp only [go_sem]; first | done | omega)) only [go_sem, Int.reduceToNat, Nat.reduceMul, Nat.reduceAdd, Nat.reduceSub, ↓EU_region, ↓EU_draw, g9], by simp (maxSteps := 1000000) (disch := first | decide | omega | (simp only [go_sem]; first | done | omega)) only [go_sem, Int.reduceToNat, Nat.reduceMul, Nat.reduceAdd, Nat.reduceSub, ↓EU_region, ↓EU_draw], by simp (maxSteps := 1000000) (disch := first | decide | omega | (simp only [go_sem]; first | done | omega)) only [go_sem, Int.reduceToNat, Nat.reduceMul, Nat.reduceAdd, Nat.reduceSub, ↓EU_region, ↓EU_draw]; rfl, by simp (maxSteps := 1000000) (disch := first | decide | omega | (simp only [go_sem]; first | done | omega)) only [go_sem, Int.reduceToNat, Nat.reduceMul, Nat.reduceAdd, Nat.reduceSub, ↓EU_region, ↓EU_draw]; rfl⟩
      · omega
      · clear g1 g2 g3 g9
        rintro ⟨_, _⟩ ⟨tm, rfl, rfl, g1, g2, g3, g9, g11, g12⟩
        simp (maxSteps := 1000000) (disch := first | decide | omega | (simp only [go_sem]; first | done | omega)) only [go_sem, Int.reduceToNat, Nat.reduceMul, Nat.reduceAdd, Nat.reduceSub, ↓EU_region, ↓EU_draw, g1, g2, g3, g9, g11, g12]
        have bs : ∀ x : Bool, (x == x) = true := fun x => by cases x <;> rfl
        -- TAIL
        obtain ⟨lc, pc, lc4, lc0⟩ := gi.2.2 c
        repeat refine WPo_ob ?_
        refine (under_ev gl h00.next a b la pa (by omega) h3 gr3).bind fun h4 x4 => ?_
        have gr4 := gr3.ext x4
        simp (maxSteps := 1000000) (disch := first | decide | omega | (simp only [go_sem]; first | done | omega)) only [go_sem, Int.reduceToNat, Nat.reduceMul, Nat.reduceAdd, Nat.reduceSub, ↓EU_region, ↓EU_draw, g1, g2, g3, g9, g11, g12, bs]
        cases u1 : la.contains b with
        | false =>
          rw [u1] at g12
          repeat refine WPo_ob ?_
          refine (under_ev gl h00.next a b la pa (by omega) h4 gr4).bind fun h5 x5 => ?_
          have gr5 := gr4.ext x5
          rw [u1]
          simp (maxSteps := 1000000) (disch := first | decide | omega | (simp only [go_sem]; first | done | omega)) only [go_sem, Int.reduceToNat, Nat.reduceMul, Nat.reduceAdd, Nat.reduceSub, ↓EU_region, ↓EU_draw, g1, g2, g3, g9, g11, g12, bs]
          by_cases e0 : la = []
          · have d0 : decide ((la.length : Int) = 0) = true := decide_eq_true (by rw [e0]; rfl)
            simp (maxSteps := 1000000) (disch := first | decide | omega | (simp only [go_sem]; first | done | omega)) only [go_sem, Int.reduceToNat, Nat.reduceMul, Nat.reduceAdd, Nat.reduceSub, ↓EU_region, ↓EU_draw, g1, g2, g3, g9, g11, g12, bs, d0]
            repeat refine WPo_ob ?_
            refine (under_ev gl h00.next a b la pa (by omega) h5 gr5).bind fun h6 x6 => ?_
            have gr6 := gr5.ext x6
            rw [u1]
            simp (maxSteps := 1000000) (disch := first | decide | omega | (simp only [go_sem]; first | done | omega)) only [go_sem, Int.reduceToNat, Nat.reduceMul, Nat.reduceAdd, Nat.reduceSub, ↓EU_region, ↓EU_draw, g1, g2, g3, g9, g11, g12, bs]
          · have d0 : decide ((la.length : Int) = 0) = false := decide_eq_false (fun q => e0 (List.eq_nil_of_length_eq_zero (by omega)))
            simp (maxSteps := 1000000) (disch := first | decide | omega | (simp only [go_sem]; first | done | omega)) only [go_sem, Int.reduceToNat, Nat.reduceMul, Nat.reduceAdd, Nat.reduceSub, ↓EU_region, ↓EU_draw, g1, g2, g3, g9, g11, g12, bs, d0]
            repeat refine WPo_ob ?_
            refine (under_ev gl h00.next a 0 la pa (by omega) h5 gr5).bind fun h6 x6 => ?_
            have gr6 := gr5.ext x6
            rw [under_top (la0 e0)]
            simp (maxSteps := 1000000) (disch := first | decide | omega | (simp only [go_sem]; first | done | omega)) only [go_sem, Int.reduceToNat, Nat.reduceMul, Nat.reduceAdd, Nat.reduceSub, ↓EU_region, ↓EU_draw, g1, g2, g3, g9, g11, g12, bs]
            repeat refine WPo_ob ?_
            refine (under_ev gl h00.next a a la pa (by omega) h6 gr6).bind fun h7 x7 => ?_
            have gr7 := gr6.ext x7
            rw [under_self pa e0]
            simp (maxSteps := 1000000) (disch := first | decide | omega | (simp only [go_sem]; first | done | omega)) only [go_sem, Int.reduceToNat, Nat.reduceMul, Nat.reduceAdd, Nat.reduceSub, ↓EU_region, ↓EU_draw, g1, g2, g3, g9, g11, g12, bs]
            repeat refine WPo_ob ?_
            refine (under_ev gl h00.next a b la pa (by omega) h7 gr7).bind fun h8 x8 => ?_
            have gr8 := gr7.ext x8
            rw [u1]
            simp (maxSteps := 1000000) (disch := first | decide | omega | (simp only [go_sem]; first | done | omega)) only [go_sem, Int.reduceToNat, Nat.reduceMul, Nat.reduceAdd, Nat.reduceSub, ↓EU_region, ↓EU_draw, g1, g2, g3, g9, g11, g12, bs]
        | true =>
          rw [u1] at g12
          repeat refine WPo_ob ?_
          refine (under_ev gl h00.next a b la pa (by omega) h4 gr4).bind fun h5 x5 => ?_
          have gr5 := gr4.ext x5
          rw [u1]
          simp (maxSteps := 1000000) (disch := first | decide | omega | (simp only [go_sem]; first | done | omega)) only [go_sem, Int.reduceToNat, Nat.reduceMul, Nat.reduceAdd, Nat.reduceSub, ↓EU_region, ↓EU_draw, g1, g2, g3, g9, g11, g12, bs]
          cases u2 : lb.contains c with
          | false =>
            repeat refine WPo_ob ?_
            refine (under_ev gl h00.next b c lb pb (by omega) h5 gr5).bind fun h6 x6 => ?_
            have gr6 := gr5.ext x6
            rw [u2]
            simp (maxSteps := 1000000) (disch := first | decide | omega | (simp only [go_sem]; first | done | omega)) only [go_sem, Int.reduceToNat, Nat.reduceMul, Nat.reduceAdd, Nat.reduceSub, ↓EU_region, ↓EU_draw, g1, g2, g3, g9, g11, g12, bs]
            by_cases e0 : la = []
            · have d0 : decide ((la.length : Int) = 0) = true := decide_eq_true (by rw [e0]; rfl)
              simp (maxSteps := 1000000) (disch := first | decide | omega | (simp only [go_sem]; first | done | omega)) only [go_sem, Int.reduceToNat, Nat.reduceMul, Nat.reduceAdd, Nat.reduceSub, ↓EU_region, ↓EU_draw, g1, g2, g3, g9, g11, g12, bs, d0]
              repeat refine WPo_ob ?_
              refine (under_ev gl h00.next a b la pa (by omega) h6 gr6).bind fun h7 x7 => ?_
              have gr7 := gr6.ext x7
              rw [u1]
              simp (maxSteps := 1000000) (disch := first | decide | omega | (simp only [go_sem]; first | done | omega)) only [go_sem, Int.reduceToNat, Nat.reduceMul, Nat.reduceAdd, Nat.reduceSub, ↓EU_region, ↓EU_draw, g1, g2, g3, g9, g11, g12, bs]
              cases u4 : lb.contains a with
              | false =>
                repeat refine WPo_ob ?_
                refine (under_ev gl h00.next b a lb pb (by omega) h7 gr7).bind fun h8 x8 => ?_
                have gr8 := gr7.ext x8
                rw [u4]
                simp (maxSteps := 1000000) (disch := first | decide | omega | (simp only [go_sem]; first | done | omega)) only [go_sem, Int.reduceToNat, Nat.reduceMul, Nat.reduceAdd, Nat.reduceSub, ↓EU_region, ↓EU_draw, g1, g2, g3, g9, g11, g12, bs]
              | true =>
                have eab := under_anti pa pb u1 u4
                have dab : decide (a = b) = true := decide_eq_true eab
                repeat refine WPo_ob ?_
                refine (under_ev gl h00.next b a lb pb (by omega) h7 gr7).bind fun h8 x8 => ?_
                have gr8 := gr7.ext x8
                rw [u4]
                simp (maxSteps := 1000000) (disch := first | decide | omega | (simp only [go_sem]; first | done | omega)) only [go_sem, Int.reduceToNat, Nat.reduceMul, Nat.reduceAdd, Nat.reduceSub, ↓EU_region, ↓EU_draw, g1, g2, g3, g9, g11, g12, bs, dab]
            · have d0 : decide ((la.length : Int) = 0) = false := decide_eq_false (fun q => e0 (List.eq_nil_of_length_eq_zero (by omega)))
              simp (maxSteps := 1000000) (disch := first | decide | omega | (simp only [go_sem]; first | done | omega)) only [go_sem, Int.reduceToNat, Nat.reduceMul, Nat.reduceAdd, Nat.reduceSub, ↓EU_region, ↓EU_draw, g1, g2, g3, g9, g11, g12, bs, d0]
              repeat refine WPo_ob ?_
              refine (under_ev gl h00.next a 0 la pa (by omega) h6 gr6).bind fun h7 x7 => ?_
              have gr7 := gr6.ext x7
              rw [under_top (la0 e0)]
              simp (maxSteps := 1000000) (disch := first | decide | omega | (simp only [go_sem]; first | done | omega)) only [go_sem, Int.reduceToNat, Nat.reduceMul, Nat.reduceAdd, Nat.reduceSub, ↓EU_region, ↓EU_draw, g1, g2, g3, g9, g11, g12, bs]
              repeat refine WPo_ob ?_
              refine (under_ev gl h00.next a a la pa (by omega) h7 gr7).bind fun h8 x8 => ?_
              have gr8 := gr7.ext x8
              rw [under_self pa e0]
              simp (maxSteps := 1000000) (disch := first | decide | omega | (simp only [go_sem]; first | done | omega)) only [go_sem, Int.reduceToNat, Nat.reduceMul, Nat.reduceAdd, Nat.reduceSub, ↓EU_region, ↓EU_draw, g1, g2, g3, g9, g11, g12, bs]
              repeat refine WPo_ob ?_
              refine (under_ev gl h00.next a b la pa (by omega) h8 gr8).bind fun h9 x9 => ?_
              have gr9 := gr8.ext x9
              rw [u1]
              simp (maxSteps := 1000000) (disch := first | decide | omega | (simp only [go_sem]; first | done | omega)) only [go_sem, Int.reduceToNat, Nat.reduceMul, Nat.reduceAdd, Nat.reduceSub, ↓EU_region, ↓EU_draw, g1, g2, g3, g9, g11, g12, bs]
              cases u4 : lb.contains a with
              | false =>
                repeat refine WPo_ob ?_
                refine (under_ev gl h00.next b a lb pb (by omega) h9 gr9).bind fun h10 x10 => ?_
                have gr10 := gr9.ext x10
                rw [u4]
                simp (maxSteps := 1000000) (disch := first | decide | omega | (simp only [go_sem]; first | done | omega)) only [go_sem, Int.reduceToNat, Nat.reduceMul, Nat.reduceAdd, Nat.reduceSub, ↓EU_region, ↓EU_draw, g1, g2, g3, g9, g11, g12, bs]
              | true =>
                have eab := under_anti pa pb u1 u4
                have dab : decide (a = b) = true := decide_eq_true eab
                repeat refine WPo_ob ?_
                refine (under_ev gl h00.next b a lb pb (by omega) h9 gr9).bind fun h10 x10 => ?_
                have gr10 := gr9.ext x10
                rw [u4]
                simp (maxSteps := 1000000) (disch := first | decide | omega | (simp only [go_sem]; first | done | omega)) only [go_sem, Int.reduceToNat, Nat.reduceMul, Nat.reduceAdd, Nat.reduceSub, ↓EU_region, ↓EU_draw, g1, g2, g3, g9, g11, g12, bs, dab]
          | true =>
            repeat refine WPo_ob ?_
            refine (under_ev gl h00.next b c lb pb (by omega) h5 gr5).bind fun h6 x6 => ?_
            have gr6 := gr5.ext x6
            rw [u2]
            simp (maxSteps := 1000000) (disch := first | decide | omega | (simp only [go_sem]; first | done | omega)) only [go_sem, Int.reduceToNat, Nat.reduceMul, Nat.reduceAdd, Nat.reduceSub, ↓EU_region, ↓EU_draw, g1, g2, g3, g9, g11, g12, bs]
            have u3 := under_trans pa pb u1 u2
            repeat refine WPo_ob ?_
            refine (under_ev gl h00.next a c la pa (by omega) h6 gr6).bind fun h7 x7 => ?_
            have gr7 := gr6.ext x7
            rw [u3]
            simp (maxSteps := 1000000) (disch := first | decide | omega | (simp only [go_sem]; first | done | omega)) only [go_sem, Int.reduceToNat, Nat.reduceMul, Nat.reduceAdd, Nat.reduceSub, ↓EU_region, ↓EU_draw, g1, g2, g3, g9, g11, g12, bs]
            by_cases e0 : la = []
            · have d0 : decide ((la.length : Int) = 0) = true := decide_eq_true (by rw [e0]; rfl)
              simp (maxSteps := 1000000) (disch := first | decide | omega | (simp only [go_sem]; first | done | omega)) only [go_sem, Int.reduceToNat, Nat.reduceMul, Nat.reduceAdd, Nat.reduceSub, ↓EU_region, ↓EU_draw, g1, g2, g3, g9, g11, g12, bs, d0]
              repeat refine WPo_ob ?_
              refine (under_ev gl h00.next a b la pa (by omega) h7 gr7).bind fun h8 x8 => ?_
              have gr8 := gr7.ext x8
              rw [u1]
              simp (maxSteps := 1000000) (disch := first | decide | omega | (simp only [go_sem]; first | done | omega)) only [go_sem, Int.reduceToNat, Nat.reduceMul, Nat.reduceAdd, Nat.reduceSub, ↓EU_region, ↓EU_draw, g1, g2, g3, g9, g11, g12, bs]
              cases u4 : lb.contains a with
              | false =>
                repeat refine WPo_ob ?_
                refine (under_ev gl h00.next b a lb pb (by omega) h8 gr8).bind fun h9 x9 => ?_
                have gr9 := gr8.ext x9
                rw [u4]
                simp (maxSteps := 1000000) (disch := first | decide | omega | (simp only [go_sem]; first | done | omega)) only [go_sem, Int.reduceToNat, Nat.reduceMul, Nat.reduceAdd, Nat.reduceSub, ↓EU_region, ↓EU_draw, g1, g2, g3, g9, g11, g12, bs]
              | true =>
                have eab := under_anti pa pb u1 u4
                have dab : decide (a = b) = true := decide_eq_true eab
                repeat refine WPo_ob ?_
                refine (under_ev gl h00.next b a lb pb (by omega) h8 gr8).bind fun h9 x9 => ?_
                have gr9 := gr8.ext x9
                rw [u4]
                simp (maxSteps := 1000000) (disch := first | decide | omega | (simp only [go_sem]; first | done | omega)) only [go_sem, Int.reduceToNat, Nat.reduceMul, Nat.reduceAdd, Nat.reduceSub, ↓EU_region, ↓EU_draw, g1, g2, g3, g9, g11, g12, bs, dab]
            · have d0 : decide ((la.length : Int) = 0) = false := decide_eq_false (fun q => e0 (List.eq_nil_of_length_eq_zero (by omega)))
              simp (maxSteps := 1000000) (disch := first | decide | omega | (simp only [go_sem]; first | done | omega)) only [go_sem, Int.reduceToNat, Nat.reduceMul, Nat.reduceAdd, Nat.reduceSub, ↓EU_region, ↓EU_draw, g1, g2, g3, g9, g11, g12, bs, d0]
              repeat refine WPo_ob ?_
              refine (under_ev gl h00.next a 0 la pa (by omega) h7 gr7).bind fun h8 x8 => ?_
              have gr8 := gr7.ext x8
              rw [under_top (la0 e0)]
              simp (maxSteps := 1000000) (disch := first | decide | omega | (simp only [go_sem]; first | done | omega)) only [go_sem, Int.reduceToNat, Nat.reduceMul, Nat.reduceAdd, Nat.reduceSub, ↓EU_region, ↓EU_draw, g1, g2, g3, g9, g11, g12, bs]
              repeat refine WPo_ob ?_
              refine (under_ev gl h00.next a a la pa (by omega) h8 gr8).bind fun h9 x9 => ?_
              have gr9 := gr8.ext x9
              rw [under_self pa e0]
              simp (maxSteps := 1000000) (disch := first | decide | omega | (simp only [go_sem]; first | done | omega)) only [go_sem, Int.reduceToNat, Nat.reduceMul, Nat.reduceAdd, Nat.reduceSub, ↓EU_region, ↓EU_draw, g1, g2, g3, g9, g11, g12, bs]
              repeat refine WPo_ob ?_
              refine (under_ev gl h00.next a b la pa (by omega) h9 gr9).bind fun h10 x10 => ?_
              have gr10 := gr9.ext x10
              rw [u1]
              simp (maxSteps := 1000000) (disch := first | decide | omega | (simp only [go_sem]; first | done | omega)) only [go_sem, Int.reduceToNat, Nat.reduceMul, Nat.reduceAdd, Nat.reduceSub, ↓EU_region, ↓EU_draw, g1, g2, g3, g9, g11, g12, bs]
              cases u4 : lb.contains a with
              | false =>
                repeat refine WPo_ob ?_
                refine (under_ev gl h00.next b a lb pb (by omega) h10 gr10).bind fun h11 x11 => ?_
                have gr11 := gr10.ext x11
                rw [u4]
                simp (maxSteps := 1000000) (disch := first | decide | omega | (simp only [go_sem]; first | done | omega)) only [go_sem, Int.reduceToNat, Nat.reduceMul, Nat.reduceAdd, Nat.reduceSub, ↓EU_region, ↓EU_draw, g1, g2, g3, g9, g11, g12, bs]
              | true =>
                have eab := under_anti pa pb u1 u4
                have dab : decide (a = b) = true := decide_eq_true eab
                repeat refine WPo_ob ?_
                refine (under_ev gl h00.next b a lb pb (by omega) h10 gr10).bind fun h11 x11 => ?_
                have gr11 := gr10.ext x11
                rw [u4]
                simp (maxSteps := 1000000) (disch := first | decide | omega | (simp only [go_sem]; first | done | omega)) only [go_sem, Int.reduceToNat, Nat.reduceMul, Nat.reduceAdd, Nat.reduceSub, ↓EU_region, ↓EU_draw, g1, g2, g3, g9, g11, g12, bs, dab]
end Go.Proofs.Ytagjgigknnaphaa.EV
