/- Contracts: cmp.Compare, owed.Front. No condition. -/
import Derived.Test.YtmkfdoomoeiibaaDoorOwed2
import Derived.Test.YtmkfdoomoeiibaaDoorRowItem
namespace Go.Proofs.YtmkfdoomoeiibaaDoor.EV
open Go Go.Proofs
set_option linter.unusedVariables false
set_option linter.unusedSimpArgs false
set_option maxRecDepth 100000
set_option pp.deepTerms false
set_option pp.deepTerms.threshold 20
noncomputable def cmpI (a b : Int) : Int := if a < b then -1 else if b < a then 1 else 0
theorem cmp64_ev (a b : Int) (h : Heap) : EF Tryd.prog O0 24 [.int .i64 a, .int .i64 b] h = some (.int .i64 (cmpI a b), h) := by
  have : WPo (EF Tryd.prog O0 24 [.int .i64 a, .int .i64 b] h) fun q => q = (.int .i64 (cmpI a b), h) := by
    unfold cmpI
    have dn : ∀ x : Int, decide (x = x) = true := fun x => decide_eq_true rfl
    have hn : ∀ (x : Int) (h : Heap), EF Tryd.prog O0 35 [.int .i64 x] h = some (.bool false, h) := fun x h => by
      have : WPo (EF Tryd.prog O0 35 [.int .i64 x] h) fun q => q = (.bool false, h) := by
        rw [EF_body (O := O0) (by kernel_rfl) Tryd.func35 rfl (rs := [.tmp 2]) rfl (bad := []) (by kernel_rfl) _ _ (m := 6) rfl]
        simp (maxSteps := 1000000) (disch := first | decide | omega | (simp only [go_sem]; first | done | omega)) only [go_sem, Int.reduceToNat, Nat.reduceMul, Nat.reduceAdd, Nat.reduceSub, ↓EU_region, ↓EU_draw, dn]
      obtain ⟨q, e, rfl⟩ := this
      exact e
    rw [EF_body (O := O0) (by kernel_rfl) Tryd.func24 rfl (rs := [.tmp 4]) rfl (bad := []) (by kernel_rfl) _ _ (m := 20) rfl]
    by_cases q1 : a < b
    · have d1 : decide (a < b) = true := decide_eq_true q1
      rw [if_pos q1]
      simp (maxSteps := 1000000) (disch := first | decide | omega | (simp only [go_sem]; first | done | omega)) only [go_sem, Int.reduceToNat, Nat.reduceMul, Nat.reduceAdd, Nat.reduceSub, ↓EU_region, ↓EU_draw, hn, d1]
    · have d1 : decide (a < b) = false := decide_eq_false q1
      rw [if_neg q1]
      by_cases q2 : b < a
      · have d2 : decide (b < a) = true := decide_eq_true q2
        rw [if_pos q2]
        simp (maxSteps := 1000000) (disch := first | decide | omega | (simp only [go_sem]; first | done | omega)) only [go_sem, Int.reduceToNat, Nat.reduceMul, Nat.reduceAdd, Nat.reduceSub, ↓EU_region, ↓EU_draw, hn, d1, d2]
      · have d2 : decide (b < a) = false := decide_eq_false q2
        rw [if_neg q2]
        simp (maxSteps := 1000000) (disch := first | decide | omega | (simp only [go_sem]; first | done | omega)) only [go_sem, Int.reduceToNat, Nat.reduceMul, Nat.reduceAdd, Nat.reduceSub, ↓EU_region, ↓EU_draw, hn, d1, d2]
  obtain ⟨q, e, rfl⟩ := this
  exact e
theorem cmpint_ev (a b : Int) (h : Heap) : EF Tryd.prog O0 25 [.int .i64 a, .int .i64 b] h = some (.int .i64 (cmpI a b), h) := by
  have : WPo (EF Tryd.prog O0 25 [.int .i64 a, .int .i64 b] h) fun q => q = (.int .i64 (cmpI a b), h) := by
    unfold cmpI
    have dn : ∀ x : Int, decide (x = x) = true := fun x => decide_eq_true rfl
    have hn : ∀ (x : Int) (h : Heap), EF Tryd.prog O0 36 [.int .i64 x] h = some (.bool false, h) := fun x h => by
      have : WPo (EF Tryd.prog O0 36 [.int .i64 x] h) fun q => q = (.bool false, h) := by
        rw [EF_body (O := O0) (by kernel_rfl) Tryd.func36 rfl (rs := [.tmp 2]) rfl (bad := []) (by kernel_rfl) _ _ (m := 6) rfl]
        simp (maxSteps := 1000000) (disch := first | decide | omega | (simp only [go_sem]; first | done | omega)) only [go_sem, Int.reduceToNat, Nat.reduceMul, Nat.reduceAdd, Nat.reduceSub, ↓EU_region, ↓EU_draw, dn]
      obtain ⟨q, e, rfl⟩ := this
      exact e
    rw [EF_body (O := O0) (by kernel_rfl) Tryd.func25 rfl (rs := [.tmp 4]) rfl (bad := []) (by kernel_rfl) _ _ (m := 20) rfl]
    by_cases q1 : a < b
    · have d1 : decide (a < b) = true := decide_eq_true q1
      rw [if_pos q1]
      simp (maxSteps := 1000000) (disch := first | decide | omega | (simp only [go_sem]; first | done | omega)) only [go_sem, Int.reduceToNat, Nat.reduceMul, Nat.reduceAdd, Nat.reduceSub, ↓EU_region, ↓EU_draw, hn, d1]
    · have d1 : decide (a < b) = false := decide_eq_false q1
      rw [if_neg q1]
      by_cases q2 : b < a
      · have d2 : decide (b < a) = true := decide_eq_true q2
        rw [if_pos q2]
        simp (maxSteps := 1000000) (disch := first | decide | omega | (simp only [go_sem]; first | done | omega)) only [go_sem, Int.reduceToNat, Nat.reduceMul, Nat.reduceAdd, Nat.reduceSub, ↓EU_region, ↓EU_draw, hn, d1, d2]
      · have d2 : decide (b < a) = false := decide_eq_false q2
        rw [if_neg q2]
        simp (maxSteps := 1000000) (disch := first | decide | omega | (simp only [go_sem]; first | done | omega)) only [go_sem, Int.reduceToNat, Nat.reduceMul, Nat.reduceAdd, Nat.reduceSub, ↓EU_region, ↓EU_draw, hn, d1, d2]
  obtain ⟨q, e, rfl⟩ := this
  exact e
noncomputable def frontC (a b : Item) : Int := if cmpI b.lag a.lag = 0 then cmpI a.id b.id else cmpI b.lag a.lag
theorem front1_ev (a b : Item) (h : Heap) : Pu (EF Tryd.prog O0 23 [.agg ⟨itemE a⟩, .agg ⟨itemE b⟩] h) h (.int .i64 (frontC a b)) := by
  unfold Pu itemE frontC
  rw [EF_body (O := O0) (by kernel_rfl) Tryd.func23 rfl (rs := [.tmp 4]) rfl (bad := []) (by kernel_rfl) _ _ (m := 19) rfl]
  simp (maxSteps := 1000000) (disch := first | decide | omega | (simp only [go_sem]; first | done | omega)) only [go_sem, Int.reduceToNat, Nat.reduceMul, Nat.reduceAdd, Nat.reduceSub, ↓EU_region, ↓EU_draw, cmp64_ev]
  by_cases q : cmpI b.lag a.lag = 0
  · have d : decide (cmpI b.lag a.lag = 0) = true := decide_eq_true q
    rw [if_pos q]
    simp (maxSteps := 1000000) (disch := first | decide | omega | (simp only [go_sem]; first | done | omega)) only [go_sem, Int.reduceToNat, Nat.reduceMul, Nat.reduceAdd, Nat.reduceSub, ↓EU_region, ↓EU_draw, d, cmpint_ev]
    exact ⟨trivial, by repeat (first | exact Ext.refl _ | assumption | refine Ext.push ?_ _ | refine Ext.set ?_ _ _ (by first | omega | (simp only [next_push, next_set]; omega)))⟩
  · have d : decide (cmpI b.lag a.lag = 0) = false := decide_eq_false q
    rw [if_neg q]
    simp (maxSteps := 1000000) (disch := first | decide | omega | (simp only [go_sem]; first | done | omega)) only [go_sem, Int.reduceToNat, Nat.reduceMul, Nat.reduceAdd, Nat.reduceSub, ↓EU_region, ↓EU_draw, d]
    exact ⟨trivial, by repeat (first | exact Ext.refl _ | assumption | refine Ext.push ?_ _ | refine Ext.set ?_ _ _ (by first | omega | (simp only [next_push, next_set]; omega)))⟩
noncomputable def minF : Item → List Item → Item
  | m, [] => m
  | m, x :: l => minF (if frontC x m < 0 then x else m) l
theorem minfunc_ev (x0 : Item) (l : List Item) (s : Value) (h : Heap) (hs : SL itemE 3 h s (x0 :: l)) (hl : l.length < 900000) :
    WPo (EF Tryd.prog O0 22 [s, .func (.func 23) ⟨[]⟩ ⟨[]⟩] h) fun q => q.1 = .agg ⟨itemE (minF x0 l)⟩ ∧ Ext h q.2 := by
  rw [EF_body (O := O0) (by kernel_rfl) Tryd.func22 rfl (rs := [.cell 4 30]) rfl (bad := []) (by kernel_rfl) _ _ (m := 33) rfl]
  obtain ⟨b, o, c, e, hb, hrd, hr⟩ := hs.at (i := 0) rfl rfl
  subst e
  have d0 : decide (((l.length + 1 : Nat) : Int) < 1) = false := decide_eq_false (by omega)
  rw [Nat.zero_mul, Nat.add_zero] at hrd
  have hLl : (x0 :: l).length = l.length + 1 := rfl
  simp (maxSteps := 1000000) (disch := first | decide | omega | (simp only [go_sem]; first | done | omega)) only [go_sem, Int.reduceToNat, Nat.reduceMul, Nat.reduceAdd, Nat.reduceSub, ↓EU_region, ↓EU_draw, d0, hrd]
  obtain ⟨L, hL⟩ : ∃ L, L = x0 :: l := ⟨_, rfl⟩
  rw [← hL] at hs hLl
  have hdr : minF x0 l = minF x0 (L.drop 1) := by rw [hL]; rfl
  rw [hdr]
  repeat refine WPo_ob ?_
  refine (LP_rule (fun n st => ∃ (i : Nat) (tm : Fr) (h2 : Heap) (m : Item), st = ⟨tm, h2, []⟩ ∧ n = l.length + 1 - i ∧ i ≤ l.length + 1 ∧ Fr.get tm 0 = .slice (some ⟨b, o, none⟩) (l.length + 1) c ∧ Fr.get tm 1 = .func (.func 23) ⟨[]⟩ ⟨[]⟩ ∧ Fr.get tm 4 = ptr h.next 0 ∧ Fr.get tm 5 = ptr (h.next + 1) 0 ∧ Fr.get tm 6 = .int .i64 i ∧ h2.get (h.next + 1) = .cells (itemE m) 0 ∧ h2.get h.next = .cells [.int .i64 0, .int .i64 0, .int .i64 0] 0 ∧ h.next + 1 < h2.next ∧ Ext h h2 ∧ minF x0 (L.drop 1) = minF m (L.drop i))
    (fun q => ∃ tm h2, q.2 = ⟨tm, h2, []⟩ ∧ q.1 = .exit 0 ∧ Fr.get tm 4 = ptr h.next 0 ∧ Fr.get tm 5 = ptr (h.next + 1) 0 ∧ h2.get (h.next + 1) = .cells (itemE (minF x0 (L.drop 1))) 0 ∧ h2.get h.next = .cells [.int .i64 0, .int .i64 0, .int .i64 0] 0 ∧ Ext h h2) ?_ l.length _ _ ?_ ?_).mono ?_
  · rintro n _ ⟨i, tm, h2, m, rfl, rfl, hi, g0, g1, g4, g5, g6, hM, hZ, hn, x2, hm⟩
    simp (maxSteps := 1000000) (disch := first | decide | omega | (simp only [go_sem]; first | done | omega)) only [go_sem, Int.reduceToNat, Nat.reduceMul, Nat.reduceAdd, Nat.reduceSub, ↓EU_region, ↓EU_draw, g0, g6]
    ((repeat refine WPo_ob ?_); (first | refine WPo_cond (fun b1 => ?_) (fun b1 => ?_) | refine WPo_gard (fun b1 => ?_) (fun b1 => ?_) | refine WPo_gardT (fun b1 => ?_) (fun b1 => ?_)) <;> (try simp only [Bool.not_eq_true', Bool.not_eq_false'] at b1))
    · have b1' := b1
      simp only [decide_eq_true_eq] at b1'
      have hi' : i < L.length := by omega
      obtain ⟨x, hx⟩ : ∃ x, L[i]? = some x := ⟨_, List.getElem?_eq_getElem hi'⟩
      obtain ⟨b', o', c', e, hb', hrx, _⟩ := (hs.ext x2).at hx rfl
      rw [hLl] at e
      cases e
      have hwi : wrapF .i64 ((i : Int) + 1) = ((i + 1 : Nat) : Int) := by rw [wrap64 (by omega)]; omega
      have hm' : minF x0 (L.drop 1) = minF (if frontC x m < 0 then x else m) (L.drop (i + 1)) := by rw [hm, drop_at hx]; rfl
      simp (maxSteps := 1000000) (disch := first | decide | omega | (simp only [go_sem]; first | done | omega)) only [go_sem, Int.reduceToNat, Nat.reduceMul, Nat.reduceAdd, Nat.reduceSub, ↓EU_region, ↓EU_draw, g0, g1, g4, g5, g6, hrx, hM]
      repeat refine WPo_ob ?_
      refine (front1_ev x m h2).bind fun h3 x3 => ?_
      have hM3 := (x3.old _ hn).trans hM
      have hZ3 := (x3.old h.next (by omega)).trans hZ
      have hrx3 : rdc (h3.get b) (o + i * 3) 3 = some (itemE x) := by rw [x3.old _ hb']; exact hrx
      have hn3 := x3.le
      by_cases q : frontC x m < 0
      · have d1 : decide (frontC x m < 0) = true := decide_eq_true q
        rw [if_pos q] at hm'
        simp (maxSteps := 1000000) (disch := first | decide | omega | (simp only [go_sem]; first | done | omega)) only [go_sem, Int.reduceToNat, Nat.reduceMul, Nat.reduceAdd, Nat.reduceSub, ↓EU_region, ↓EU_draw, g0, g1, g4, g5, g6, hrx3, hM3, d1, hwi]
        exact ⟨_, by omega, i + 1, _, _, x, rfl, rfl, by omega, by simp (maxSteps := 1000000) (disch := first | decide | omega | (simp only [go_sem]; first | done | omega)) only [go_sem, Int.reduceToNat, Nat.reduceMul, Nat.reduceAdd, Nat.reduceSub, ↓EU_region, ↓EU_draw, g0], by simp (maxSteps := 1000000) (disch := first | decide | omega | (simp only [go_sem]; first | done | omega)) only [go_sem, Int.reduceToNat, Nat.reduceMul, Nat.reduceAdd, Nat.reduceSub, ↓EU_region, ↓EU_draw, g1], by simp (maxSteps := 1000000) (disch := first | decide | omega | (simp only [go_sem]; first | done | omega)) only [go_sem, Int.reduceToNat, Nat.reduceMul, Nat.reduceAdd, Nat.reduceSub, ↓EU_region, ↓EU_draw, g4], by simp (maxSteps := 1000000) (disch := first | decide | omega | (simp only [go_sem]; first | done | omega)) only [go_sem, Int.reduceToNat, Nat.reduceMul, Nat.reduceAdd, Nat.reduceSub, ↓EU_region, ↓EU_draw, g5], by simp (maxSteps := 1000000) (disch := first | decide | omega | (simp only [go_sem]; first | done | omega)) only [go_sem, Int.reduceToNat, Nat.reduceMul, Nat.reduceAdd, Nat.reduceSub, ↓EU_region, ↓EU_draw], get_set_same _ _ _, by rw [get_set_ne _ (by omega)]; exact hZ3, by rw [next_set]; omega, (x2.trans x3).set _ _ (by omega), hm'⟩
      · have d1 : decide (frontC x m < 0) = false := decide_eq_false q
        rw [if_neg q] at hm'
        simp (maxSteps := 1000000) (disch := first | decide | omega | (simp only [go_sem]; first | done | omega)) only [go_sem, Int.reduceToNat, Nat.reduceMul, Nat.reduceAdd, Nat.reduceSub, ↓EU_region, ↓EU_draw, g0, g1, g4, g5, g6, hM3, d1, hwi]
        exact ⟨_, by omega, i + 1, _, _, m, rfl, rfl, by omega, by simp (maxSteps := 1000000) (disch := first | decide | omega | (simp only [go_sem]; first | done | omega)) only [go_sem, Int.reduceToNat, Nat.reduceMul, Nat.reduceAdd, Nat.reduceSub, ↓EU_region, ↓EU_draw, g0], by simp (maxSteps := 1000000) (disch := first | decide | omega | (simp only [go_sem]; first | done | omega)) only [go_sem, Int.reduceToNat, Nat.reduceMul, Nat.reduceAdd, Nat.reduceSub, ↓EU_region, ↓EU_draw, g1], by simp (maxSteps := 1000000) (disch := first | decide | omega | (simp only [go_sem]; first | done | omega)) only [go_sem, Int.reduceToNat, Nat.reduceMul, Nat.reduceAdd, Nat.reduceSub, ↓EU_region, ↓EU_draw, g4], by simp (maxSteps := 1000000) (disch := first | decide | omega | (simp only [go_sem]; first | done | omega)) only [go_sem, Int.reduceToNat, Nat.reduceMul, Nat.reduceAdd, Nat.reduceSub, ↓EU_region, ↓EU_draw, g5], by simp (maxSteps := 1000000) (disch := first | decide | omega | (simp only [go_sem]; first | done | omega)) only [go_sem, Int.reduceToNat, Nat.reduceMul, Nat.reduceAdd, Nat.reduceSub, ↓EU_region, ↓EU_draw], hM3, hZ3, by omega, x2.trans x3, hm'⟩
    · simp only [decide_eq_false_iff_not] at b1
      have : i = L.length := by omega
      subst this
      rw [List.drop_length] at hm
      simp (maxSteps := 1000000) (disch := first | decide | omega | (simp only [go_sem]; first | done | omega)) only [go_sem, Int.reduceToNat, Nat.reduceMul, Nat.reduceAdd, Nat.reduceSub, ↓EU_region, ↓EU_draw]
      exact ⟨_, _, rfl, trivial, by simp (maxSteps := 1000000) (disch := first | decide | omega | (simp only [go_sem]; first | done | omega)) only [go_sem, Int.reduceToNat, Nat.reduceMul, Nat.reduceAdd, Nat.reduceSub, ↓EU_region, ↓EU_draw, g4], by simp (maxSteps := 1000000) (disch := first | decide | omega | (simp only [go_sem]; first | done | omega)) only [go_sem, Int.reduceToNat, Nat.reduceMul, Nat.reduceAdd, Nat.reduceSub, ↓EU_region, ↓EU_draw, g5], by rw [hm]; exact hM, hZ, x2⟩
  · exact ⟨1, _, _, x0, rfl, by omega, by omega, by simp (maxSteps := 1000000) (disch := first | decide | omega | (simp only [go_sem]; first | done | omega)) only [go_sem, Int.reduceToNat, Nat.reduceMul, Nat.reduceAdd, Nat.reduceSub, ↓EU_region, ↓EU_draw], by simp (maxSteps := 1000000) (disch := first | decide | omega | (simp only [go_sem]; first | done | omega)) only [go_sem, Int.reduceToNat, Nat.reduceMul, Nat.reduceAdd, Nat.reduceSub, ↓EU_region, ↓EU_draw], by simp (maxSteps := 1000000) (disch := first | decide | omega | (simp only [go_sem]; first | done | omega)) only [go_sem, Int.reduceToNat, Nat.reduceMul, Nat.reduceAdd, Nat.reduceSub, ↓EU_region, ↓EU_draw], by simp (maxSteps := 1000000) (disch := first | decide | omega | (simp only [go_sem]; first | done | omega)) only [go_sem, Int.reduceToNat, Nat.reduceMul, Nat.reduceAdd, Nat.reduceSub, ↓EU_region, ↓EU_draw], by simp (maxSteps := 1000000) (disch := first | decide | omega | (simp only [go_sem]; first | done | omega)) only [go_sem, Int.reduceToNat, Nat.reduceMul, Nat.reduceAdd, Nat.reduceSub, ↓EU_region, ↓EU_draw]; rfl, by simp (maxSteps := 1000000) (disch := first | decide | omega | (simp only [go_sem]; first | done | omega)) only [go_sem, Int.reduceToNat, Nat.reduceMul, Nat.reduceAdd, Nat.reduceSub, ↓EU_region, ↓EU_draw], by simp (maxSteps := 1000000) (disch := first | decide | omega | (simp only [go_sem]; first | done | omega)) only [go_sem, Int.reduceToNat, Nat.reduceMul, Nat.reduceAdd, Nat.reduceSub, ↓EU_region, ↓EU_draw], by simp only [next_push, next_set]; omega, by repeat (first | exact Ext.refl _ | assumption | refine Ext.push ?_ _ | refine Ext.set ?_ _ _ (by first | omega | (simp only [next_push, next_set]; omega))), rfl⟩
  · omega
  · rintro ⟨q, _⟩ ⟨tm, h2, rfl, rfl, g4, g5, hM, hZ, x2⟩
    simp (maxSteps := 1000000) (disch := first | decide | omega | (simp only [go_sem]; first | done | omega)) only [go_sem, Int.reduceToNat, Nat.reduceMul, Nat.reduceAdd, Nat.reduceSub, ↓EU_region, ↓EU_draw, g4, g5, hM, hZ]
    exact ⟨trivial, x2.set _ _ (Nat.le_refl _)⟩
noncomputable def frontR (l : List Item) : Item := match l with
  | [] => ⟨0, 0, 0⟩
  | x :: l => minF x l
theorem ofront_ev (cur : Int) (l : List Item) (s : Value) (h : Heap) (hs : SL itemE 3 h s l) (hl : l.length < 900000) :
    Pu (EF Tryd.prog O0 11 [formV cur s] h) h (.tuple ⟨[.agg ⟨itemE (frontR l)⟩, .bool (!decide ((l.length : Int) = 0))]⟩) := by
  unfold Pu formV
  rw [EF_body (O := O0) (by kernel_rfl) Tryd.func11 rfl (rs := [.cell 2 30, .tmp 3]) rfl (bad := []) (by kernel_rfl) _ _ (m := 12) rfl]
  obtain ⟨a, c, hv⟩ := hs.val
  subst hv
  simp (maxSteps := 1000000) (disch := first | decide | omega | (simp only [go_sem]; first | done | omega)) only [go_sem, Int.reduceToNat, Nat.reduceMul, Nat.reduceAdd, Nat.reduceSub, ↓EU_region, ↓EU_draw]
  cases l with
  | nil =>
    simp (maxSteps := 1000000) (disch := first | decide | omega | (simp only [go_sem]; first | done | omega)) only [go_sem, Int.reduceToNat, Nat.reduceMul, Nat.reduceAdd, Nat.reduceSub, ↓EU_region, ↓EU_draw, dec_t, dec_f]
    exact ⟨rfl, by repeat (first | exact Ext.refl _ | assumption | refine Ext.push ?_ _ | refine Ext.set ?_ _ _ (by first | omega | (simp only [next_push, next_set]; omega)))⟩
  | cons x0 l =>
    have hh := minfunc_ev x0 l _ _ (hs.ext (((Ext.refl h).push (.cells [.int .i64 cur, .slice a (x0 :: l).length c] 0)).push (.cells [.int .i64 0, .int .i64 0, .int .i64 0] 0))) (by simp only [List.length_cons] at hl; omega)
    have d0 : decide (((l.length + 1 : Nat) : Int) = 0) = false := decide_eq_false (by omega)
    simp only [List.length_cons] at hh
    simp (maxSteps := 1000000) (disch := first | decide | omega | (simp only [go_sem]; first | done | omega)) only [go_sem, Int.reduceToNat, Nat.reduceMul, Nat.reduceAdd, Nat.reduceSub, ↓EU_region, ↓EU_draw, d0]
    repeat refine WPo_ob ?_
    refine hh.mono ?_
    rintro ⟨v, h1⟩ ⟨rfl, x1⟩
    simp only at x1
    have hn1 := x1.le
    simp only [next_push] at hn1
    have hz : h1.get (h.next + 1) = .cells [.int .i64 0, .int .i64 0, .int .i64 0] 0 := by simp (maxSteps := 1000000) (disch := first | decide | omega | (simp only [go_sem]; first | done | omega)) only [go_sem, Int.reduceToNat, Nat.reduceMul, Nat.reduceAdd, Nat.reduceSub, ↓EU_region, ↓EU_draw, x1.old]
    simp (maxSteps := 1000000) (disch := first | decide | omega | (simp only [go_sem]; first | done | omega)) only [go_sem, Int.reduceToNat, Nat.reduceMul, Nat.reduceAdd, Nat.reduceSub, ↓EU_region, ↓EU_draw, hz]
    exact ⟨rfl, ((((Ext.refl h).push _).push _).trans x1).set _ _ (by omega)⟩
end Go.Proofs.YtmkfdoomoeiibaaDoor.EV
