/- OwedFront, plainly. No condition. -/
import Derived.Test.YtmkfdoomoeiibaaDoorFront
namespace Go.Proofs.YtmkfdoomoeiibaaDoor.EV
open Go Go.Proofs
set_option linter.unusedVariables false
set_option linter.unusedSimpArgs false
set_option maxRecDepth 100000
set_option pp.deepTerms false
set_option pp.deepTerms.threshold 20
noncomputable def better (y x : Item) : Bool := decide (x.lag < y.lag) || (decide (y.lag = x.lag) && decide (y.id < x.id))
theorem frontC_lt (y x : Item) : frontC y x < 0 ↔ better y x = true := by
  unfold frontC cmpI better
  simp only [Bool.or_eq_true, Bool.and_eq_true, decide_eq_true_eq]
  split <;> split <;> (repeat' split) <;> omega
theorem minF_best : ∀ (l : List Item) (m : Item), better m (minF m l) = false ∧ (∀ y ∈ l, better y (minF m l) = false) ∧ (minF m l = m ∨ minF m l ∈ l)
  | [], m => ⟨by unfold minF better; simp, (fun y hy => by cases hy), .inl rfl⟩
  | x :: l, m => by
    have key : ∀ a b c : Item, better b c = false → better a b = false → better a c = false := fun a b c h1 h2 => by
      unfold better at *
      simp only [Bool.or_eq_false_iff, Bool.and_eq_false_iff, decide_eq_false_iff_not] at *
      omega
    by_cases q : frontC x m < 0
    · obtain ⟨h1, h2, h3⟩ := minF_best l x
      have e : minF m (x :: l) = minF x l := by show minF (if frontC x m < 0 then x else m) l = _; rw [if_pos q]
      rw [e]
      have hmx : better m x = false := by
        have := (frontC_lt x m).1 q
        unfold better at *
        simp only [Bool.or_eq_false_iff, Bool.or_eq_true, Bool.and_eq_true, Bool.and_eq_false_iff, decide_eq_false_iff_not, decide_eq_true_eq] at *
        omega
      refine ⟨key _ _ _ h1 hmx, fun y hy => ?_, .inr ?_⟩
      · rcases List.mem_cons.1 hy with rfl | hy
        · exact h1
        · exact h2 y hy
      · rcases h3 with h3 | h3
        · rw [h3]; exact List.mem_cons_self ..
        · exact List.mem_cons_of_mem _ h3
    · obtain ⟨h1, h2, h3⟩ := minF_best l m
      have e : minF m (x :: l) = minF m l := by show minF (if frontC x m < 0 then x else m) l = _; rw [if_neg q]
      rw [e]
      have hxm : better x m = false := by
        cases hb : better x m with
        | false => rfl
        | true => exact (q ((frontC_lt x m).2 hb)).elim
      refine ⟨h1, fun y hy => ?_, h3.imp id (List.mem_cons_of_mem _)⟩
      rcases List.mem_cons.1 hy with rfl | hy
      · exact key _ _ _ h1 hxm
      · exact h2 y hy
theorem frontR_best {l : List Item} (h : l ≠ []) : frontR l ∈ l ∧ ∀ y ∈ l, better y (frontR l) = false := by
  cases l with
  | nil => exact (h rfl).elim
  | cons x l =>
    obtain ⟨h1, h2, h3⟩ := minF_best l x
    refine ⟨?_, fun y hy => ?_⟩
    · rcases h3 with h3 | h3
      · show minF x l ∈ _; rw [h3]; exact List.mem_cons_self ..
      · exact List.mem_cons_of_mem _ h3
    · rcases List.mem_cons.1 hy with rfl | hy
      · exact h1
      · exact h2 y hy
theorem frontR_good {c : Int} {l : List Item} (h : l ≠ []) (hg : goodF c l = true) : 0 ≤ (frontR l).lag := by
  obtain ⟨h1, h2⟩ := frontR_best h
  unfold goodF at hg
  simp only [Bool.and_eq_true, Bool.or_eq_true, decide_eq_true_eq] at hg
  rcases hg.2.2.2 with q | q
  · exact (h (List.length_eq_zero_iff.1 q)).elim
  · obtain ⟨y, hy, hl⟩ := List.any_eq_true.1 q
    have := h2 y hy
    unfold better at this
    unfold lagOk at hl
    simp only [Bool.or_eq_false_iff, decide_eq_false_iff_not, decide_eq_true_eq] at this hl
    omega
theorem law_OwedFront (h : Heap) (cf : Int) (wf : (Lit.int .i64 cf).wf = true) (sf : Value) (lf : List Item) (hf : SL itemE 3 h sf lf) (wlf : ∀ z ∈ lf, ItemWf z) :
    WPo (EF Tryd.prog O0 4 [formV cf sf] h) fun q => q.1 = .bool true := by
  rw [EF_body (O := O0) (by kernel_rfl) Tryd.func4 rfl (rs := [.tmp 2]) rfl (bad := []) (by kernel_rfl) _ _ (m := 83) rfl]
  obtain ⟨af, kf, hv⟩ := hf.val
  subst hv
  unfold formV
  simp (maxSteps := 1000000) (disch := first | decide | omega | (simp only [go_sem]; first | done | omega)) only [go_sem, Int.reduceToNat, Nat.reduceMul, Nat.reduceAdd, Nat.reduceSub, ↓EU_region, ↓EU_draw, awake_ev]
  ((repeat refine WPo_ob ?_); (first | refine WPo_cond (fun b1 => ?_) (fun b1 => ?_) | refine WPo_gard (fun b1 => ?_) (fun b1 => ?_) | refine WPo_gardT (fun b1 => ?_) (fun b1 => ?_)) <;> (try simp only [Bool.not_eq_true', Bool.not_eq_false'] at b1))
  · simp (maxSteps := 1000000) (disch := first | decide | omega | (simp only [go_sem]; first | done | omega)) only [go_sem, Int.reduceToNat, Nat.reduceMul, Nat.reduceAdd, Nat.reduceSub, ↓EU_region, ↓EU_draw, b1]
  · have b1' := b1
    simp only [decide_eq_false_iff_not] at b1'
    have x0 : Ext h (h.push (.cells [.int .i64 cf, .slice af lf.length kf] 0)) := (Ext.refl h).push _
    have p1 := ofront_ev cf lf _ _ (hf.ext x0) (by omega)
    unfold formV at p1
    simp (maxSteps := 1000000) (disch := first | decide | omega | (simp only [go_sem]; first | done | omega)) only [go_sem, Int.reduceToNat, Nat.reduceMul, Nat.reduceAdd, Nat.reduceSub, ↓EU_region, ↓EU_draw, b1]
    repeat refine WPo_ob ?_
    refine p1.bind fun h1 x1 => ?_
    have hn1 := x1.le
    simp only [next_push] at hn1
    have o1 : h1.get h.next = .cells [.int .i64 cf, .slice af lf.length kf] 0 := by simp (maxSteps := 1000000) (disch := first | decide | omega | (simp only [go_sem]; first | done | omega)) only [go_sem, Int.reduceToNat, Nat.reduceMul, Nat.reduceAdd, Nat.reduceSub, ↓EU_region, ↓EU_draw, x1.old]
    have y1 : Ext h h1 := x0.trans x1
    by_cases hl : lf = []
    · subst hl
      simp (maxSteps := 1000000) (disch := first | decide | omega | (simp only [go_sem]; first | done | omega)) only [go_sem, Int.reduceToNat, Nat.reduceMul, Nat.reduceAdd, Nat.reduceSub, ↓EU_region, ↓EU_draw, dec_t, dec_f, o1]
    · have hll : lf.length ≠ 0 := fun e => hl (List.length_eq_zero_iff.1 e)
      have d0 : decide ((lf.length : Int) = 0) = false := decide_eq_false (by omega)
      obtain ⟨hmem, hbest⟩ := frontR_best hl
      have hgood := fun (hg : goodF cf lf = true) => frontR_good hl hg
      generalize frontR lf = x at *
      have o1p : (h1.push (.cells (itemE x) 0)).get h.next = .cells [.int .i64 cf, .slice af lf.length kf] 0 := by rw [get_push_old _ (by omega)]; exact o1
      have oxp : (h1.push (.cells (itemE x) 0)).get h1.next = .cells (itemE x) 0 := get_push_new _ _
      have y1p : Ext h (h1.push (.cells (itemE x) 0)) := y1.push _
      have hnp : h1.next < (h1.push (.cells (itemE x) 0)).next := by rw [next_push]; omega
      simp (maxSteps := 1000000) (disch := first | decide | omega | (simp only [go_sem]; first | done | omega)) only [go_sem, Int.reduceToNat, Nat.reduceMul, Nat.reduceAdd, Nat.reduceSub, ↓EU_region, ↓EU_draw, d0, o1]
      generalize h1.push (.cells (itemE x) 0) = h2 at *
      repeat refine WPo_ob ?_
      refine (LP_rule (fun n st => ∃ (i : Nat) (tm : Fr), st = ⟨tm, h2, []⟩ ∧ n = lf.length - i ∧ i ≤ lf.length ∧ Fr.get tm 1 = ptr h.next 0 ∧ Fr.get tm 3 = ptr h1.next 0 ∧ Fr.get tm 5 = .bool ((lf.take i).any fun y => itemEq y x) ∧ Fr.get tm 6 = .int .i64 i)
        (fun q => ∃ tm, q.2 = ⟨tm, h2, []⟩ ∧ q.1 = .exit 0 ∧ Fr.get tm 1 = ptr h.next 0 ∧ Fr.get tm 3 = ptr h1.next 0 ∧ Fr.get tm 5 = .bool (lf.any fun y => itemEq y x)) ?_ lf.length _ _ ?_ ?_).mono ?_
      · rintro n _ ⟨i, tm, rfl, rfl, hi, g1, g3, g5, g6⟩
        simp (maxSteps := 1000000) (disch := first | decide | omega | (simp only [go_sem]; first | done | omega)) only [go_sem, Int.reduceToNat, Nat.reduceMul, Nat.reduceAdd, Nat.reduceSub, ↓EU_region, ↓EU_draw, g1, g6, o1p]
        ((repeat refine WPo_ob ?_); (first | refine WPo_cond (fun b2 => ?_) (fun b2 => ?_) | refine WPo_gard (fun b2 => ?_) (fun b2 => ?_) | refine WPo_gardT (fun b2 => ?_) (fun b2 => ?_)) <;> (try simp only [Bool.not_eq_true', Bool.not_eq_false'] at b2))
        · have b2' := b2
          simp only [decide_eq_true_eq] at b2'
          have hi' : i < lf.length := by omega
          obtain ⟨y, hy⟩ : ∃ x, lf[i]? = some x := ⟨_, List.getElem?_eq_getElem hi'⟩
          obtain ⟨b, o, c', e, hb', hrd, hr⟩ := (hf.ext y1p).at hy rfl
          cases e
          have hr0 := hr 0 _ rfl
          rw [add_z] at hr0
          have hr2 := hr 2 _ rfl
          have hbe := hbest y (List.mem_of_getElem? hy)
          unfold better at hbe
          simp only [Bool.or_eq_false_iff, Bool.and_eq_false_iff] at hbe
          have hwi : wrapF .i64 ((i : Int) + 1) = ((i + 1 : Nat) : Int) := by rw [wrap64 (by omega)]; omega
          have hi0 : ((i : Int)).toNat = i := by omega
          have hta := take_any (fun y => itemEq y x) hy
          obtain ⟨hb1, hb2⟩ := hbe
          cases he : decide (y.lag = x.lag) with
          | true =>
            rw [he] at hb2
            have hb3 : decide (y.id < x.id) = false := by rcases hb2 with q | q; cases q; exact q
            simp (maxSteps := 1000000) (disch := first | decide | omega | (simp only [go_sem]; first | done | omega)) only [go_sem, Int.reduceToNat, Nat.reduceMul, Nat.reduceAdd, Nat.reduceSub, ↓EU_region, ↓EU_draw, g1, g3, g5, g6, o1p, oxp, hr0, hr2, hrd, hb1, he, hb3, hwi, hi0]
            repeat' (((repeat refine WPo_ob ?_); (first | refine WPo_cond (fun hb => ?_) (fun hb => ?_) | refine WPo_gard (fun hb => ?_) (fun hb => ?_) | refine WPo_gardT (fun hb => ?_) (fun hb => ?_)) <;> (try simp only [Bool.not_eq_true', Bool.not_eq_false'] at hb)) <;> (simp (maxSteps := 1000000) (disch := first | decide | omega | (simp only [go_sem]; first | done | omega)) only [go_sem, Int.reduceToNat, Nat.reduceMul, Nat.reduceAdd, Nat.reduceSub, ↓EU_region, ↓EU_draw, hb, g1, g3, g5, g6, o1p, oxp, hr0, hr2, hrd, hb1, he, hb3, hwi, hi0]))
            all_goals exact ⟨_, by omega, i + 1, _, rfl, rfl, by omega, by simp (maxSteps := 1000000) (disch := first | decide | omega | (simp only [go_sem]; first | done | omega)) only [go_sem, Int.reduceToNat, Nat.reduceMul, Nat.reduceAdd, Nat.reduceSub, ↓EU_region, ↓EU_draw, g1], by simp (maxSteps := 1000000) (disch := first | decide | omega | (simp only [go_sem]; first | done | omega)) only [go_sem, Int.reduceToNat, Nat.reduceMul, Nat.reduceAdd, Nat.reduceSub, ↓EU_region, ↓EU_draw, g3], by simp (maxSteps := 1000000) (disch := first | decide | omega | (simp only [go_sem]; first | done | omega)) only [go_sem, Int.reduceToNat, Nat.reduceMul, Nat.reduceAdd, Nat.reduceSub, ↓EU_region, ↓EU_draw]; rw [hta, hb]; rfl, by simp (maxSteps := 1000000) (disch := first | decide | omega | (simp only [go_sem]; first | done | omega)) only [go_sem, Int.reduceToNat, Nat.reduceMul, Nat.reduceAdd, Nat.reduceSub, ↓EU_region, ↓EU_draw]⟩
          | false =>
            simp (maxSteps := 1000000) (disch := first | decide | omega | (simp only [go_sem]; first | done | omega)) only [go_sem, Int.reduceToNat, Nat.reduceMul, Nat.reduceAdd, Nat.reduceSub, ↓EU_region, ↓EU_draw, g1, g3, g5, g6, o1p, oxp, hr0, hr2, hrd, hb1, he, hwi, hi0]
            repeat' (((repeat refine WPo_ob ?_); (first | refine WPo_cond (fun hb => ?_) (fun hb => ?_) | refine WPo_gard (fun hb => ?_) (fun hb => ?_) | refine WPo_gardT (fun hb => ?_) (fun hb => ?_)) <;> (try simp only [Bool.not_eq_true', Bool.not_eq_false'] at hb)) <;> (simp (maxSteps := 1000000) (disch := first | decide | omega | (simp only [go_sem]; first | done | omega)) only [go_sem, Int.reduceToNat, Nat.reduceMul, Nat.reduceAdd, Nat.reduceSub, ↓EU_region, ↓EU_draw, hb, g1, g3, g5, g6, o1p, oxp, hr0, hr2, hrd, hb1, he, hwi, hi0]))
            all_goals exact ⟨_, by omega, i + 1, _, rfl, rfl, by omega, by simp (maxSteps := 1000000) (disch := first | decide | omega | (simp only [go_sem]; first | done | omega)) only [go_sem, Int.reduceToNat, Nat.reduceMul, Nat.reduceAdd, Nat.reduceSub, ↓EU_region, ↓EU_draw, g1], by simp (maxSteps := 1000000) (disch := first | decide | omega | (simp only [go_sem]; first | done | omega)) only [go_sem, Int.reduceToNat, Nat.reduceMul, Nat.reduceAdd, Nat.reduceSub, ↓EU_region, ↓EU_draw, g3], by simp (maxSteps := 1000000) (disch := first | decide | omega | (simp only [go_sem]; first | done | omega)) only [go_sem, Int.reduceToNat, Nat.reduceMul, Nat.reduceAdd, Nat.reduceSub, ↓EU_region, ↓EU_draw]; rw [hta, hb]; rfl, by simp (maxSteps := 1000000) (disch := first | decide | omega | (simp only [go_sem]; first | done | omega)) only [go_sem, Int.reduceToNat, Nat.reduceMul, Nat.reduceAdd, Nat.reduceSub, ↓EU_region, ↓EU_draw]⟩
        · simp only [decide_eq_false_iff_not] at b2
          have : i = lf.length := by omega
          subst this
          rw [List.take_length] at g5
          simp (maxSteps := 1000000) (disch := first | decide | omega | (simp only [go_sem]; first | done | omega)) only [go_sem, Int.reduceToNat, Nat.reduceMul, Nat.reduceAdd, Nat.reduceSub, ↓EU_region, ↓EU_draw]
          exact ⟨_, rfl, trivial, by simp (maxSteps := 1000000) (disch := first | decide | omega | (simp only [go_sem]; first | done | omega)) only [go_sem, Int.reduceToNat, Nat.reduceMul, Nat.reduceAdd, Nat.reduceSub, ↓EU_region, ↓EU_draw, g1], by simp (maxSteps := 1000000) (disch := first | decide | omega | (simp only [go_sem]; first | done | omega)) only [go_sem, Int.reduceToNat, Nat.reduceMul, Nat.reduceAdd, Nat.reduceSub, ↓EU_region, ↓EU_draw, g3], by simp (maxSteps := 1000000) (disch := first | decide | omega | (simp only [go_sem]; first | done | omega)) only [go_sem, Int.reduceToNat, Nat.reduceMul, Nat.reduceAdd, Nat.reduceSub, ↓EU_region, ↓EU_draw, g5]⟩
      · exact ⟨0, _, rfl, rfl, by omega, by simp (maxSteps := 1000000) (disch := first | decide | omega | (simp only [go_sem]; first | done | omega)) only [go_sem, Int.reduceToNat, Nat.reduceMul, Nat.reduceAdd, Nat.reduceSub, ↓EU_region, ↓EU_draw], by simp (maxSteps := 1000000) (disch := first | decide | omega | (simp only [go_sem]; first | done | omega)) only [go_sem, Int.reduceToNat, Nat.reduceMul, Nat.reduceAdd, Nat.reduceSub, ↓EU_region, ↓EU_draw], by simp (maxSteps := 1000000) (disch := first | decide | omega | (simp only [go_sem]; first | done | omega)) only [go_sem, Int.reduceToNat, Nat.reduceMul, Nat.reduceAdd, Nat.reduceSub, ↓EU_region, ↓EU_draw]; rfl, by simp (maxSteps := 1000000) (disch := first | decide | omega | (simp only [go_sem]; first | done | omega)) only [go_sem, Int.reduceToNat, Nat.reduceMul, Nat.reduceAdd, Nat.reduceSub, ↓EU_region, ↓EU_draw]; rfl⟩
      · omega
      · rintro ⟨q, _⟩ ⟨tm, rfl, rfl, g1, g3, g5⟩
        have hany : (lf.any fun y => itemEq y x) = true := List.any_eq_true.2 ⟨x, hmem, (itemEq_iff x x).2 rfl⟩
        rw [hany] at g5
        have p2 := good_ev cf lf _ h2 (hf.ext y1p) (by omega)
        unfold formV at p2
        simp (maxSteps := 1000000) (disch := first | decide | omega | (simp only [go_sem]; first | done | omega)) only [go_sem, Int.reduceToNat, Nat.reduceMul, Nat.reduceAdd, Nat.reduceSub, ↓EU_region, ↓EU_draw, g1, g3, g5, o1p]
        repeat refine WPo_ob ?_
        refine p2.bind fun h3 x3 => ?_
        have ox3 : h3.get h1.next = .cells (itemE x) 0 := (x3.old _ hnp).trans oxp
        cases hG : goodF cf lf with
        | false => simp (maxSteps := 1000000) (disch := first | decide | omega | (simp only [go_sem]; first | done | omega)) only [go_sem, Int.reduceToNat, Nat.reduceMul, Nat.reduceAdd, Nat.reduceSub, ↓EU_region, ↓EU_draw]
        | true =>
          have d1 : decide (x.lag ≥ 0) = true := decide_eq_true (hgood hG)
          simp (maxSteps := 1000000) (disch := first | decide | omega | (simp only [go_sem]; first | done | omega)) only [go_sem, Int.reduceToNat, Nat.reduceMul, Nat.reduceAdd, Nat.reduceSub, ↓EU_region, ↓EU_draw, g1, g3, ox3, d1]
end Go.Proofs.YtmkfdoomoeiibaaDoor.EV
