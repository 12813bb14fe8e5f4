/- OrdqOver, plainly. No condition. -/
import Derived.Test.YtchclddjifhcaaaOqI
import Derived.Test.YtchclddjifhcaaaOq9
namespace Go.Proofs.Ytchclddjifhcaaa.EV
open Go Go.Proofs
set_option linter.unusedVariables false
set_option linter.unusedSimpArgs false
set_option maxRecDepth 100000
set_option pp.deepTerms false
set_option pp.deepTerms.threshold 20
theorem wf_i64 {n : Int} (h : (Lit.int .i64 n).wf = true) : -9223372036854775808 ≤ n ∧ n ≤ 9223372036854775807 := by
  simpa [Lit.wf, IntKind.min, IntKind.max, IntKind.signed, IntKind.bits] using h
theorem itm_keys (l : List Int) : (itm l).map (·.key) = l := by
  apply List.ext_getElem?
  intro i
  rw [List.getElem?_map, itm_get]
  cases l[i]? <;> rfl
theorem abv_n {k : Int} {l : List QI} {ks : List Int} (p : l.Perm (itm ks)) : (abv k l).length = (ks.filter fun z => decide (k < z)).length := by
  unfold abv
  rw [(((srtQ_perm l).trans p).filter _).length_eq]
  conv => rhs; rw [← itm_keys ks]
  rw [List.filter_map, List.length_map]
  rfl
theorem split_above (k : Int) : ∀ M : List QI, (M.Pairwise fun a b => ¬ ltQ b a) → M = (M.filter fun x => !decide (k < x.key)) ++ M.filter fun x => decide (k < x.key)
  | [], _ => rfl
  | x :: t, h => by
    rw [List.pairwise_cons] at h
    by_cases q : k < x.key
    · have d : decide (k < x.key) = true := decide_eq_true q
      have all : ∀ y ∈ t, k < y.key := fun y hy => by
        have := h.1 y hy
        unfold ltQ at this
        omega
      have e1 : t.filter (fun x => !decide (k < x.key)) = [] := List.filter_eq_nil_iff.2 fun y hy => by simp [all y hy]
      have e2 : t.filter (fun x => decide (k < x.key)) = t := List.filter_eq_self.2 fun y hy => decide_eq_true (all y hy)
      rw [List.filter_cons_of_neg (by simp [q]), List.filter_cons_of_pos (p := fun x : QI => decide (k < x.key)) d, e1, e2]
      rfl
    · have d : decide (k < x.key) = false := decide_eq_false q
      rw [List.filter_cons_of_pos (by simp [q]), List.filter_cons_of_neg (by simp [q]), List.cons_append, ← split_above k t h.2]
theorem over_at {k : Int} {l : List QI} {i : Nat} {z : QI} (h : (abv k l)[i]? = some z) : k < z.key ∧ (srtQ l)[(srtQ l).length - (abv k l).length + i]? = some z := by
  have hm := List.mem_of_getElem? h
  unfold abv at h hm ⊢
  refine ⟨of_decide_eq_true (List.mem_filter.1 hm).2, ?_⟩
  have e := split_above k (srtQ l) (srtQ_sorted l)
  have en := congrArg List.length e
  rw [List.length_append] at en
  rw [show (srtQ l).length - ((srtQ l).filter fun x => decide (k < x.key)).length + i = ((srtQ l).filter fun x => !decide (k < x.key)).length + i by omega]
  conv => lhs; arg 1; rw [e]
  rw [List.getElem?_append_right (by omega), Nat.add_sub_cancel_left]
  exact h
set_option maxHeartbeats 4000000 in
theorem law_OrdqOver (h : Heap) (s : Value) (ks : List Int) (hs : SL (intE .i64) 1 h s ks) (wl : ∀ z ∈ ks, (Lit.int .i64 z).wf = true) (key : Int) (wk : (Lit.int .i64 key).wf = true) :
    WPo (EF Try.prog O0 4 [s, .int .i64 key] h) fun q => q.1 = .bool true := by
  rw [EF_body (O := O0) (by kernel_rfl) Try.func4 rfl (rs := [.tmp 4]) rfl (bad := []) (by kernel_rfl) _ _ (m := 87) rfl]
  obtain ⟨a, c, rfl⟩ := hs.val
  by_cases c0 : ks.length > 80
  · have d0 : decide ((ks.length : Int) > 80) = true := decide_eq_true (by omega)
    simp (maxSteps := 1000000) (disch := first | decide | omega | (simp only [go_sem]; first | done | omega)) only [go_sem, Int.reduceToNat, Nat.reduceMul, Nat.reduceAdd, Nat.reduceSub, ↓EU_region, ↓EU_draw, awake_ev, d0]
  have d0 : decide ((ks.length : Int) > 80) = false := decide_eq_false (by omega)
  simp (maxSteps := 1000000) (disch := first | decide | omega | (simp only [go_sem]; first | done | omega)) only [go_sem, Int.reduceToNat, Nat.reduceMul, Nat.reduceAdd, Nat.reduceSub, ↓EU_region, ↓EU_draw, awake_ev, d0]
  repeat refine WPo_ob ?_
  refine (new_ev 100 h).mono ?_
  rintro ⟨v1, h1⟩ ⟨bq, mq, rfl, qq, x1, nq, nmq⟩
  simp only at qq x1
  have e100 : clampM 100 = 100 := by decide
  rw [e100] at qq
  simp (maxSteps := 1000000) (disch := first | decide | omega | (simp only [go_sem]; first | done | omega)) only [go_sem, Int.reduceToNat, Nat.reduceMul, Nat.reduceAdd, Nat.reduceSub, ↓EU_region, ↓EU_draw]
  repeat refine WPo_ob ?_
  refine (LP_rule (fun m st => ∃ (i : Nat) (tm : Fr) (h' : Heap) (lq : Value) (sq : Int) (Lq : List QI), st = ⟨tm, h', []⟩ ∧ m = ks.length - i ∧ i ≤ ks.length ∧ Fr.get tm 0 = .slice a ks.length c ∧ Fr.get tm 1 = .int .i64 key ∧ Fr.get tm 5 = ptr bq 0 ∧ Fr.get tm 6 = .int .i64 (cntU (fun z => decide (key < z)) ks i : Nat) ∧ Fr.get tm 7 = .int .i64 (i : Int) ∧ QR h' bq lq mq 100 sq Lq ∧ (∀ j, QS bq lq mq j → h.next ≤ j) ∧ Lq.Perm (itm (ks.take i)) ∧ Ext h h')
    (fun q => ∃ (tm : Fr) (h' : Heap) (lq : Value) (sq : Int) (Lq : List QI), q.2 = ⟨tm, h', []⟩ ∧ q.1 = .exit 0 ∧ Fr.get tm 0 = .slice a ks.length c ∧ Fr.get tm 1 = .int .i64 key ∧ Fr.get tm 5 = ptr bq 0 ∧ Fr.get tm 6 = .int .i64 (cntU (fun z => decide (key < z)) ks ks.length : Nat) ∧ QR h' bq lq mq 100 sq Lq ∧ Lq.Perm (itm ks)) ?_ ks.length _ _ ?_ ?_).mono ?_
  · rintro m _ ⟨i, tm, h', lq, sq, Lq, rfl, hm, hi, g0, g1, g5, g6, g7, rq, nq', pq, xx⟩
    by_cases q : i < ks.length
    · have d : decide ((i : Int) < (ks.length : Int)) = true := decide_eq_true (by omega)
      obtain ⟨k, hk⟩ : ∃ k, ks[i]? = some k := ⟨_, List.getElem?_eq_getElem q⟩
      have hwi : wrapF .i64 ((i : Int) + 1) = ((i + 1 : Nat) : Int) := by rw [wrap64 (by omega)]; rfl
      obtain ⟨B, o, c', e, _, _, t0⟩ := (hs.ext xx).at hk rfl
      cases e
      have t0 := t0 0 _ rfl
      rw [add_z] at t0
      have i2 : ∀ x ∈ Lq, x.id ≠ (i : Int) := fun x hx e => by
        obtain ⟨j, hj, hj2⟩ := itm_mem (pq.mem_iff.1 hx)
        have := (List.getElem?_eq_some_iff.1 hj2).1
        rw [List.length_take] at this
        omega
      have l2 : Lq.length = i := by rw [pq.length_eq, itm_len, List.length_take]; omega
      have hnx := itm_take hk
      simp (maxSteps := 1000000) (disch := first | decide | omega | (simp only [go_sem]; first | done | omega)) only [go_sem, Int.reduceToNat, Nat.reduceMul, Nat.reduceAdd, Nat.reduceSub, ↓EU_region, ↓EU_draw, g0, g5, g6, g7, d, t0]
      repeat refine WPo_ob ?_
      refine (put_new rq k (i : Int) (by omega) i2 (by omega)).mono ?_
      rintro ⟨v3, h3⟩ ⟨rfl, lq', Lq', sq', rq', m3, w3, p3, _⟩
      simp only at rq' m3
      have hle := xx.le
      have xx3 : Ext h h3 := ⟨Nat.le_trans xx.le m3.le, fun j hj => (m3.old j (Nat.lt_of_lt_of_le hj xx.le) (fun e => by have := nq' j e; omega)).trans (xx.old j hj)⟩
      obtain ⟨B, o, c', e, _, _, t3⟩ := (hs.ext xx3).at hk rfl
      cases e
      have t3 := t3 0 _ rfl
      rw [add_z] at t3
      have hnq : ∀ j, QS bq lq' mq j → h.next ≤ j := fun j e => by
        rcases w3 j e with k | k
        · exact nq' j k
        · omega
      have hpq : Lq'.Perm (itm (ks.take (i + 1))) := by rw [hnx]; exact p3.trans ((pq.cons _).trans (List.perm_append_singleton _ _).symm)
      have hcl : cntU (fun z => decide (key < z)) ks i ≤ ks.length := by unfold cntU; exact Nat.le_trans (List.length_filter_le _ _) (by rw [List.length_take]; omega)
      by_cases hkk : key < k
      · have dk : decide (key < k) = true := decide_eq_true hkk
        have hwn : wrapF .i64 ((cntU (fun z => decide (key < z)) ks i : Nat) + 1) = ((cntU (fun z => decide (key < z)) ks (i + 1) : Nat) : Int) := by rw [wrap64 (by omega), cntU_t hk dk]; rfl
        simp (maxSteps := 1000000) (disch := first | decide | omega | (simp only [go_sem]; first | done | omega)) only [go_sem, Int.reduceToNat, Nat.reduceMul, Nat.reduceAdd, Nat.reduceSub, ↓EU_region, ↓EU_draw, g0, g1, g6, g7, t3, dk, hwn, hwi]
        exact ⟨_, by omega, i + 1, _, h3, lq', sq', Lq', rfl, rfl, by omega, by simp (maxSteps := 1000000) (disch := first | decide | omega | (simp only [go_sem]; first | done | omega)) only [go_sem, Int.reduceToNat, Nat.reduceMul, Nat.reduceAdd, Nat.reduceSub, ↓EU_region, ↓EU_draw, g0], by simp (maxSteps := 1000000) (disch := first | decide | omega | (simp only [go_sem]; first | done | omega)) only [go_sem, Int.reduceToNat, Nat.reduceMul, Nat.reduceAdd, Nat.reduceSub, ↓EU_region, ↓EU_draw, g1], by simp (maxSteps := 1000000) (disch := first | decide | omega | (simp only [go_sem]; first | done | omega)) only [go_sem, Int.reduceToNat, Nat.reduceMul, Nat.reduceAdd, Nat.reduceSub, ↓EU_region, ↓EU_draw, g5], by simp (maxSteps := 1000000) (disch := first | decide | omega | (simp only [go_sem]; first | done | omega)) only [go_sem, Int.reduceToNat, Nat.reduceMul, Nat.reduceAdd, Nat.reduceSub, ↓EU_region, ↓EU_draw], by simp (maxSteps := 1000000) (disch := first | decide | omega | (simp only [go_sem]; first | done | omega)) only [go_sem, Int.reduceToNat, Nat.reduceMul, Nat.reduceAdd, Nat.reduceSub, ↓EU_region, ↓EU_draw], rq', hnq, hpq, xx3⟩
      · have dk : decide (key < k) = false := decide_eq_false hkk
        simp (maxSteps := 1000000) (disch := first | decide | omega | (simp only [go_sem]; first | done | omega)) only [go_sem, Int.reduceToNat, Nat.reduceMul, Nat.reduceAdd, Nat.reduceSub, ↓EU_region, ↓EU_draw, g0, g1, g6, g7, t3, dk, hwi]
        exact ⟨_, by omega, i + 1, _, h3, lq', sq', Lq', rfl, rfl, by omega, by simp (maxSteps := 1000000) (disch := first | decide | omega | (simp only [go_sem]; first | done | omega)) only [go_sem, Int.reduceToNat, Nat.reduceMul, Nat.reduceAdd, Nat.reduceSub, ↓EU_region, ↓EU_draw, g0], by simp (maxSteps := 1000000) (disch := first | decide | omega | (simp only [go_sem]; first | done | omega)) only [go_sem, Int.reduceToNat, Nat.reduceMul, Nat.reduceAdd, Nat.reduceSub, ↓EU_region, ↓EU_draw, g1], by simp (maxSteps := 1000000) (disch := first | decide | omega | (simp only [go_sem]; first | done | omega)) only [go_sem, Int.reduceToNat, Nat.reduceMul, Nat.reduceAdd, Nat.reduceSub, ↓EU_region, ↓EU_draw, g5], by rw [cntU_f hk dk]; simp (maxSteps := 1000000) (disch := first | decide | omega | (simp only [go_sem]; first | done | omega)) only [go_sem, Int.reduceToNat, Nat.reduceMul, Nat.reduceAdd, Nat.reduceSub, ↓EU_region, ↓EU_draw, g6], by simp (maxSteps := 1000000) (disch := first | decide | omega | (simp only [go_sem]; first | done | omega)) only [go_sem, Int.reduceToNat, Nat.reduceMul, Nat.reduceAdd, Nat.reduceSub, ↓EU_region, ↓EU_draw], rq', hnq, hpq, xx3⟩
    · have d : decide ((i : Int) < (ks.length : Int)) = false := decide_eq_false (by omega)
      have : i = ks.length := by omega
      subst this
      rw [List.take_length] at pq
      simp (maxSteps := 1000000) (disch := first | decide | omega | (simp only [go_sem]; first | done | omega)) only [go_sem, Int.reduceToNat, Nat.reduceMul, Nat.reduceAdd, Nat.reduceSub, ↓EU_region, ↓EU_draw, g0, g7, d]
      exact ⟨_, h', lq, sq, Lq, rfl, trivial, by simp (maxSteps := 1000000) (disch := first | decide | omega | (simp only [go_sem]; first | done | omega)) only [go_sem, Int.reduceToNat, Nat.reduceMul, Nat.reduceAdd, Nat.reduceSub, ↓EU_region, ↓EU_draw, g0], by simp (maxSteps := 1000000) (disch := first | decide | omega | (simp only [go_sem]; first | done | omega)) only [go_sem, Int.reduceToNat, Nat.reduceMul, Nat.reduceAdd, Nat.reduceSub, ↓EU_region, ↓EU_draw, g1], by simp (maxSteps := 1000000) (disch := first | decide | omega | (simp only [go_sem]; first | done | omega)) only [go_sem, Int.reduceToNat, Nat.reduceMul, Nat.reduceAdd, Nat.reduceSub, ↓EU_region, ↓EU_draw, g5], by simp (maxSteps := 1000000) (disch := first | decide | omega | (simp only [go_sem]; first | done | omega)) only [go_sem, Int.reduceToNat, Nat.reduceMul, Nat.reduceAdd, Nat.reduceSub, ↓EU_region, ↓EU_draw, g6], rq, pq⟩
  · refine ⟨0, _, h1, _, _, [], rfl, rfl, by omega, by simp (maxSteps := 1000000) (disch := first | decide | omega | (simp only [go_sem]; first | done | omega)) only [go_sem, Int.reduceToNat, Nat.reduceMul, Nat.reduceAdd, Nat.reduceSub, ↓EU_region, ↓EU_draw], by simp (maxSteps := 1000000) (disch := first | decide | omega | (simp only [go_sem]; first | done | omega)) only [go_sem, Int.reduceToNat, Nat.reduceMul, Nat.reduceAdd, Nat.reduceSub, ↓EU_region, ↓EU_draw], by simp (maxSteps := 1000000) (disch := first | decide | omega | (simp only [go_sem]; first | done | omega)) only [go_sem, Int.reduceToNat, Nat.reduceMul, Nat.reduceAdd, Nat.reduceSub, ↓EU_region, ↓EU_draw], by simp (maxSteps := 1000000) (disch := first | decide | omega | (simp only [go_sem]; first | done | omega)) only [go_sem, Int.reduceToNat, Nat.reduceMul, Nat.reduceAdd, Nat.reduceSub, ↓EU_region, ↓EU_draw]; rfl, by simp (maxSteps := 1000000) (disch := first | decide | omega | (simp only [go_sem]; first | done | omega)) only [go_sem, Int.reduceToNat, Nat.reduceMul, Nat.reduceAdd, Nat.reduceSub, ↓EU_region, ↓EU_draw]; rfl, qq, ?_, List.Perm.refl _, x1⟩
    rintro j (e | e | e)
    · omega
    · omega
    · exact e.elim
  · omega
  · rintro ⟨_, _⟩ ⟨tm, h', lq, sq, Lq, rfl, rfl, g0, g1, g5, g6, rq, pq⟩
    have lenq : Lq.length = ks.length := by rw [pq.length_eq, itm_len]
    rw [cntU_len] at g6
    have hn := abv_n (k := key) pq
    rw [← hn] at g6
    simp (maxSteps := 1000000) (disch := first | decide | omega | (simp only [go_sem]; first | done | omega)) only [go_sem, Int.reduceToNat, Nat.reduceMul, Nat.reduceAdd, Nat.reduceSub, ↓EU_region, ↓EU_draw, g0, g1, g5, g6]
    repeat refine WPo_ob ?_
    refine (over_ev rq key (by omega)).mono ?_
    rintro ⟨v7, h7⟩ ⟨o7, _, x7⟩
    simp only at o7 x7
    have rq7 := rq.ext x7
    simp (maxSteps := 1000000) (disch := first | decide | omega | (simp only [go_sem]; first | done | omega)) only [go_sem, Int.reduceToNat, Nat.reduceMul, Nat.reduceAdd, Nat.reduceSub, ↓EU_region, ↓EU_draw, g5]
    repeat refine WPo_ob ?_
    refine (qlist_ev rq7 (by omega)).mono ?_
    rintro ⟨v8, h8⟩ ⟨o8, _, x8⟩
    simp only at o8 x8
    have o7 := o7.ext x8
    have rq8 := rq7.ext x8
    have hat := fun i z => over_at (k := key) (l := Lq) (i := i) (z := z)
    have hle : (abv key Lq).length ≤ (srtQ Lq).length := List.length_filter_le _ _
    have hml : (srtQ Lq).length = ks.length := by rw [srtQ_len, lenq]
    generalize srtQ Lq = M at *
    generalize abv key Lq = N at *
    obtain ⟨a7, c7, rfl⟩ := o7.val
    obtain ⟨a8, c8, rfl⟩ := o8.val
    have dt : ∀ x : Int, decide (x = x) = true := fun x => decide_eq_true rfl
    simp (maxSteps := 1000000) (disch := first | decide | omega | (simp only [go_sem]; first | done | omega)) only [go_sem, Int.reduceToNat, Nat.reduceMul, Nat.reduceAdd, Nat.reduceSub, ↓EU_region, ↓EU_draw, dec_t, dec_f, g0, g6, dt, hml]
    repeat refine WPo_ob ?_
    refine (LP_rule (fun m st => ∃ (i : Nat) (tm : Fr), st = ⟨tm, h8, []⟩ ∧ m = N.length - i ∧ i ≤ N.length ∧ Fr.get tm 0 = .slice a ks.length c ∧ Fr.get tm 1 = .int .i64 key ∧ Fr.get tm 5 = ptr bq 0 ∧ Fr.get tm 6 = .int .i64 (N.length : Int) ∧ Fr.get tm 8 = .slice a7 N.length c7 ∧ Fr.get tm 9 = .slice a8 M.length c8 ∧ Fr.get tm 10 = .int .i64 (i : Int))
      (fun q => ∃ tm, q.2 = ⟨tm, h8, []⟩ ∧ q.1 = .exit 2 ∧ Fr.get tm 0 = .slice a ks.length c ∧ Fr.get tm 5 = ptr bq 0) ?_ N.length _ _ ?_ ?_).mono ?_
    · rintro m _ ⟨i, tm, rfl, hm, hi, g0, g1, g5, g6, g8, g9, g10⟩
      by_cases q : i < N.length
      · have d : decide ((i : Int) < (N.length : Int)) = true := decide_eq_true (by omega)
        obtain ⟨z, hz⟩ : ∃ z, N[i]? = some z := ⟨_, List.getElem?_eq_getElem q⟩
        obtain ⟨hk, hz2⟩ := hat i z hz
        have hwi : wrapF .i64 ((i : Int) + 1) = ((i + 1 : Nat) : Int) := by rw [wrap64 (by omega)]; rfl
        have hw1 : wrapF .i64 ((M.length : Int) - (N.length : Int)) = ((M.length - N.length : Nat) : Int) := by rw [wrap64 (by omega)]; omega
        have hw2 : wrapF .i64 (((M.length - N.length : Nat) : Int) + (i : Int)) = ((M.length - N.length + i : Nat) : Int) := by rw [wrap64 (by omega)]; omega
        obtain ⟨B, o, c', e, _, r7, t7⟩ := o7.sl.at hz rfl
        cases e
        obtain ⟨B8, o', c', e, _, r8, _⟩ := o8.sl.at hz2 rfl
        cases e
        have t7 := t7 0 _ rfl
        rw [add_z] at t7
        unfold qE at r7 r8
        have dk : decide (z.key ≤ key) = false := decide_eq_false (by omega)
        have qn : ∀ p q, evBin Try.prog .neq 31 p q (.agg ⟨[.int .i64 z.key, .int .i64 z.id]⟩) (.agg ⟨[.int .i64 z.key, .int .i64 z.id]⟩) = some (.bool false) := fun p q => by
          rw [q_neq, (qEq_iff z z).2 rfl]; rfl
        simp (maxSteps := 1000000) (disch := first | decide | omega | (simp only [go_sem]; first | done | omega)) only [go_sem, Int.reduceToNat, Nat.reduceMul, Nat.reduceAdd, Nat.reduceSub, ↓EU_region, ↓EU_draw, g1, g6, g8, g9, g10, d, r7, r8, qn, hwi, hw1, hw2, t7, dk]
        exact ⟨_, by omega, i + 1, _, rfl, rfl, by omega, by simp (maxSteps := 1000000) (disch := first | decide | omega | (simp only [go_sem]; first | done | omega)) only [go_sem, Int.reduceToNat, Nat.reduceMul, Nat.reduceAdd, Nat.reduceSub, ↓EU_region, ↓EU_draw, g0], by simp (maxSteps := 1000000) (disch := first | decide | omega | (simp only [go_sem]; first | done | omega)) only [go_sem, Int.reduceToNat, Nat.reduceMul, Nat.reduceAdd, Nat.reduceSub, ↓EU_region, ↓EU_draw, g1], by simp (maxSteps := 1000000) (disch := first | decide | omega | (simp only [go_sem]; first | done | omega)) only [go_sem, Int.reduceToNat, Nat.reduceMul, Nat.reduceAdd, Nat.reduceSub, ↓EU_region, ↓EU_draw, g5], by simp (maxSteps := 1000000) (disch := first | decide | omega | (simp only [go_sem]; first | done | omega)) only [go_sem, Int.reduceToNat, Nat.reduceMul, Nat.reduceAdd, Nat.reduceSub, ↓EU_region, ↓EU_draw, g6], by simp (maxSteps := 1000000) (disch := first | decide | omega | (simp only [go_sem]; first | done | omega)) only [go_sem, Int.reduceToNat, Nat.reduceMul, Nat.reduceAdd, Nat.reduceSub, ↓EU_region, ↓EU_draw, g8], by simp (maxSteps := 1000000) (disch := first | decide | omega | (simp only [go_sem]; first | done | omega)) only [go_sem, Int.reduceToNat, Nat.reduceMul, Nat.reduceAdd, Nat.reduceSub, ↓EU_region, ↓EU_draw, g9], by simp (maxSteps := 1000000) (disch := first | decide | omega | (simp only [go_sem]; first | done | omega)) only [go_sem, Int.reduceToNat, Nat.reduceMul, Nat.reduceAdd, Nat.reduceSub, ↓EU_region, ↓EU_draw]⟩
      · have d : decide ((i : Int) < (N.length : Int)) = false := decide_eq_false (by omega)
        simp (maxSteps := 1000000) (disch := first | decide | omega | (simp only [go_sem]; first | done | omega)) only [go_sem, Int.reduceToNat, Nat.reduceMul, Nat.reduceAdd, Nat.reduceSub, ↓EU_region, ↓EU_draw, g6, g10, d]
        exact ⟨_, rfl, trivial, by simp (maxSteps := 1000000) (disch := first | decide | omega | (simp only [go_sem]; first | done | omega)) only [go_sem, Int.reduceToNat, Nat.reduceMul, Nat.reduceAdd, Nat.reduceSub, ↓EU_region, ↓EU_draw, g0], by simp (maxSteps := 1000000) (disch := first | decide | omega | (simp only [go_sem]; first | done | omega)) only [go_sem, Int.reduceToNat, Nat.reduceMul, Nat.reduceAdd, Nat.reduceSub, ↓EU_region, ↓EU_draw, g5]⟩
    · exact ⟨0, _, rfl, rfl, by omega, by simp (maxSteps := 1000000) (disch := first | decide | omega | (simp only [go_sem]; first | done | omega)) only [go_sem, Int.reduceToNat, Nat.reduceMul, Nat.reduceAdd, Nat.reduceSub, ↓EU_region, ↓EU_draw, g0], by simp (maxSteps := 1000000) (disch := first | decide | omega | (simp only [go_sem]; first | done | omega)) only [go_sem, Int.reduceToNat, Nat.reduceMul, Nat.reduceAdd, Nat.reduceSub, ↓EU_region, ↓EU_draw, g1], by simp (maxSteps := 1000000) (disch := first | decide | omega | (simp only [go_sem]; first | done | omega)) only [go_sem, Int.reduceToNat, Nat.reduceMul, Nat.reduceAdd, Nat.reduceSub, ↓EU_region, ↓EU_draw, g5], by simp (maxSteps := 1000000) (disch := first | decide | omega | (simp only [go_sem]; first | done | omega)) only [go_sem, Int.reduceToNat, Nat.reduceMul, Nat.reduceAdd, Nat.reduceSub, ↓EU_region, ↓EU_draw, g6], by simp (maxSteps := 1000000) (disch := first | decide | omega | (simp only [go_sem]; first | done | omega)) only [go_sem, Int.reduceToNat, Nat.reduceMul, Nat.reduceAdd, Nat.reduceSub, ↓EU_region, ↓EU_draw], by rw [hml]; simp (maxSteps := 1000000) (disch := first | decide | omega | (simp only [go_sem]; first | done | omega)) only [go_sem, Int.reduceToNat, Nat.reduceMul, Nat.reduceAdd, Nat.reduceSub, ↓EU_region, ↓EU_draw], by simp (maxSteps := 1000000) (disch := first | decide | omega | (simp only [go_sem]; first | done | omega)) only [go_sem, Int.reduceToNat, Nat.reduceMul, Nat.reduceAdd, Nat.reduceSub, ↓EU_region, ↓EU_draw]; rfl⟩
    · omega
    · rintro ⟨_, _⟩ ⟨tm, rfl, rfl, g0, g5⟩
      have hql := qlen_ev rq8
      simp (maxSteps := 1000000) (disch := first | decide | omega | (simp only [go_sem]; first | done | omega)) only [go_sem, Int.reduceToNat, Nat.reduceMul, Nat.reduceAdd, Nat.reduceSub, ↓EU_region, ↓EU_draw, g0, g5, hql, lenq, dt]
end Go.Proofs.Ytchclddjifhcaaa.EV
