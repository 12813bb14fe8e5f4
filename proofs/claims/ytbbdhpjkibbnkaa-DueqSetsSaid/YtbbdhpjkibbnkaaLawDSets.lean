/- DueqSets, plainly. No condition. -/
import Derived.Test.YtbbdhpjkibbnkaaDq5
namespace Go.Proofs.Ytbbdhpjkibbnkaa.EV
open Go Go.Proofs
set_option linter.unusedVariables false
set_option linter.unusedSimpArgs false
set_option maxRecDepth 100000
set_option pp.deepTerms false
set_option pp.deepTerms.threshold 20
theorem set_perm {l : List QI} {n : Nat} {x y : QI} (hx : l[n]? = some x) : ∃ r, l.Perm (x :: r) ∧ (l.set n y).Perm (y :: r) := by
  obtain ⟨hn, rfl⟩ := List.getElem?_eq_some_iff.1 hx
  refine ⟨l.take n ++ l.drop (n + 1), ?_, ?_⟩
  · conv => lhs; rw [← List.take_append_drop n l, List.drop_eq_getElem_cons hn]
    exact List.perm_middle
  · rw [List.set_eq_take_append_cons_drop, if_pos hn]
    exact List.perm_middle
noncomputable def rEq (x y : RI) : Bool := decide (x.key = y.key) && (decide (x.due = y.due) && decide (x.id = y.id))
theorem rEq_self (x : RI) : rEq x x = true := by simp [rEq]
noncomputable def rC (a b : RI) (f : Field) : Bool := match f.offset with
  | 0 => decide (a.key = b.key)
  | 1 => decide (a.due = b.due)
  | _ => decide (a.id = b.id)
theorem r_equal (a b : RI) : absPure Try.prog (Op.equal 29 (.agg ⟨rE a⟩) (.agg ⟨rE b⟩)) = some (rEq a b) := by
  rw [eq_struct Try.underlying29 (by kernel_rfl) (rC a b)]
  · simp [rC, rEq]
  · intro f hf
    simp only [List.mem_cons, List.not_mem_nil, or_false] at hf
    rcases hf with rfl | rfl | rfl <;> exact ⟨by decide, by kernel_rfl⟩
theorem r_eql (x y : Operand) (a b : RI) : evBin Try.prog .eql 29 x y (.agg ⟨[.int .i64 a.key, .int .i64 a.due, .int .i64 a.id]⟩) (.agg ⟨[.int .i64 b.key, .int .i64 b.due, .int .i64 b.id]⟩) = some (.bool (rEq a b)) := bin_eqlS (r_equal a b) (by kernel_rfl) rfl rfl
set_option maxHeartbeats 8000000 in
theorem law_DueqSets (h : Heap) (s : Value) (ks : List Int) (hs : SL (intE .i64) 1 h s ks) (wl : ∀ z ∈ ks, (Lit.int .i64 z).wf = true) (s2 : Value) (ds : List Int) (hs2 : SL (intE .i64) 1 h s2 ds) (wl2 : ∀ z ∈ ds, (Lit.int .i64 z).wf = true) (id : Int) (wi : (Lit.int .i64 id).wf = true) (key : Int) (wk : (Lit.int .i64 key).wf = true) (due : Int) (wd : (Lit.int .i64 due).wf = true) (most : Int) (wm : (Lit.int .i64 most).wf = true) :
    WPo (EF Try.prog O0 4 [s, s2, .int .i64 id, .int .i64 key, .int .i64 due, .int .i64 most] h) fun q => q.1 = .bool true := by
  rw [EF_body (O := O0) (by kernel_rfl) Try.func4 rfl (rs := [.tmp 12]) rfl (bad := []) (by kernel_rfl) _ _ (m := 147) rfl]
  have dt : ∀ x : Int, decide (x = x) = true := fun x => decide_eq_true rfl
  have bs : ∀ x : Bool, (x == x) = true := fun x => by cases x <;> rfl
  obtain ⟨a, c, rfl⟩ := hs.val
  obtain ⟨a2, c2, rfl⟩ := hs2.val
  by_cases e0 : ks.length > 40
  · have d0 : decide ((ks.length : Int) > 40) = true := decide_eq_true (by omega)
    simp (maxSteps := 1000000) (disch := first | decide | omega | (simp only [go_sem]; first | done | omega)) only [go_sem, Int.reduceToNat, Nat.reduceMul, Nat.reduceAdd, Nat.reduceSub, ↓EU_region, ↓EU_draw, awake_ev, d0]
  have d0 : decide ((ks.length : Int) > 40) = false := decide_eq_false (by omega)
  by_cases e1 : (ds.length : Int) < ks.length
  · have d1 : decide ((ds.length : Int) < ks.length) = true := decide_eq_true e1
    simp (maxSteps := 1000000) (disch := first | decide | omega | (simp only [go_sem]; first | done | omega)) only [go_sem, Int.reduceToNat, Nat.reduceMul, Nat.reduceAdd, Nat.reduceSub, ↓EU_region, ↓EU_draw, awake_ev, d0, d1]
  have d1 : decide ((ds.length : Int) < ks.length) = false := decide_eq_false e1
  by_cases e2 : id < 0
  · have d2 : decide (id < 0) = true := decide_eq_true e2
    simp (maxSteps := 1000000) (disch := first | decide | omega | (simp only [go_sem]; first | done | omega)) only [go_sem, Int.reduceToNat, Nat.reduceMul, Nat.reduceAdd, Nat.reduceSub, ↓EU_region, ↓EU_draw, awake_ev, d0, d1, d2]
  have d2 : decide (id < 0) = false := decide_eq_false e2
  by_cases e3 : id ≥ (ks.length : Int)
  · have d3 : decide (id ≥ (ks.length : Int)) = true := decide_eq_true e3
    simp (maxSteps := 1000000) (disch := first | decide | omega | (simp only [go_sem]; first | done | omega)) only [go_sem, Int.reduceToNat, Nat.reduceMul, Nat.reduceAdd, Nat.reduceSub, ↓EU_region, ↓EU_draw, awake_ev, d0, d1, d2, d3]
  have d3 : decide (id ≥ (ks.length : Int)) = false := decide_eq_false e3
  simp (maxSteps := 1000000) (disch := first | decide | omega | (simp only [go_sem]; first | done | omega)) only [go_sem, Int.reduceToNat, Nat.reduceMul, Nat.reduceAdd, Nat.reduceSub, ↓EU_region, ↓EU_draw, awake_ev, d0, d1, d2, d3]
  repeat refine WPo_ob ?_
  refine (dnew_ev 50 h).mono ?_
  rintro ⟨v1, h1⟩ ⟨BP, bp, dp, mp, rfl, qp, x1, np⟩
  simp only at qp x1
  simp (maxSteps := 1000000) (disch := first | decide | omega | (simp only [go_sem]; first | done | omega)) only [go_sem, Int.reduceToNat, Nat.reduceMul, Nat.reduceAdd, Nat.reduceSub, ↓EU_region, ↓EU_draw]
  repeat refine WPo_ob ?_
  refine (dnew_ev 50 h1).mono ?_
  rintro ⟨v2, h2⟩ ⟨BQ, bq, dq, mq, rfl, qq, x2, nq⟩
  simp only at qq x2
  have e50 : clampM 50 = 50 := by decide
  rw [e50] at qp qq
  have ltp : ∀ j, DZ BP bp dp (.slice none 0 1) mp j → j < h1.next := fun j e => qp.blk e
  have qp := qp.ext x2
  have x12 : Ext h h2 := x1.trans x2
  simp (maxSteps := 1000000) (disch := first | decide | omega | (simp only [go_sem]; first | done | omega)) only [go_sem, Int.reduceToNat, Nat.reduceMul, Nat.reduceAdd, Nat.reduceSub, ↓EU_region, ↓EU_draw]
  repeat refine WPo_ob ?_
  refine (LP_rule (fun m st => ∃ (i : Nat) (tm : Fr) (h' : Heap) (lp : Value) (sp : Int) (Lp : List QI) (lq : Value) (sq : Int) (Lq : List QI) (dup duq : Int → Int), st = ⟨tm, h', []⟩ ∧ m = ks.length - i ∧ i ≤ ks.length ∧ Fr.get tm 0 = .slice a ks.length c ∧ Fr.get tm 1 = .slice a2 ds.length c2 ∧ Fr.get tm 2 = .int .i64 id ∧ Fr.get tm 3 = .int .i64 key ∧ Fr.get tm 4 = .int .i64 due ∧ Fr.get tm 5 = .int .i64 most ∧ Fr.get tm 13 = ptr BP 0 ∧ Fr.get tm 14 = ptr BQ 0 ∧ Fr.get tm 15 = .int .i64 (i : Int) ∧ DQ h' BP bp dp lp mp 50 sp Lp dup ∧ DQ h' BQ bq dq lq mq 50 sq Lq duq ∧ (∀ j, DZ BP bp dp lp mp j → ¬ DZ BQ bq dq lq mq j) ∧ (∀ j, DZ BP bp dp lp mp j → h.next ≤ j) ∧ (∀ j, DZ BQ bq dq lq mq j → h.next ≤ j) ∧ Lp.Perm (itm (ks.take i)) ∧ Lq.Perm (itm (ks.take i)) ∧ dup = duq ∧ (∀ j z, j < i → ds[j]? = some z → duq (j : Int) = z) ∧ Ext h h')
    (fun q => ∃ (tm : Fr) (h' : Heap) (lp : Value) (sp : Int) (Lp : List QI) (lq : Value) (sq : Int) (Lq : List QI) (duq : Int → Int), q.2 = ⟨tm, h', []⟩ ∧ q.1 = .exit 0 ∧ Fr.get tm 0 = .slice a ks.length c ∧ Fr.get tm 1 = .slice a2 ds.length c2 ∧ Fr.get tm 2 = .int .i64 id ∧ Fr.get tm 3 = .int .i64 key ∧ Fr.get tm 4 = .int .i64 due ∧ Fr.get tm 5 = .int .i64 most ∧ Fr.get tm 13 = ptr BP 0 ∧ Fr.get tm 14 = ptr BQ 0 ∧ DQ h' BP bp dp lp mp 50 sp Lp duq ∧ DQ h' BQ bq dq lq mq 50 sq Lq duq ∧ (∀ j, DZ BP bp dp lp mp j → ¬ DZ BQ bq dq lq mq j) ∧ (∀ j, DZ BP bp dp lp mp j → h.next ≤ j) ∧ (∀ j, DZ BQ bq dq lq mq j → h.next ≤ j) ∧ Lp.Perm (itm ks) ∧ Lq.Perm (itm ks) ∧ (∀ j z, j < ks.length → ds[j]? = some z → duq (j : Int) = z) ∧ Ext h h') ?_ ks.length _ _ ?_ ?_).mono ?_
  · rintro m _ ⟨i, tm, h', lp, sp, Lp, lq, sq, Lq, dup, duq, rfl, hm, hi, g0, g1, g2, g3, g4, g5, g13, g14, g15, rp, rq, dj, np', nq', pp, pq, rfl, hdu, xx⟩
    by_cases q : i < ks.length
    · have hmm : ks.length - (i + 1) < m := by omega
      have hi1 : i + 1 ≤ ks.length := q
      have d : decide ((i : Int) < (ks.length : Int)) = true := decide_eq_true (by omega)
      obtain ⟨k, hk⟩ : ∃ k, ks[i]? = some k := ⟨_, List.getElem?_eq_getElem q⟩
      obtain ⟨dd, hd⟩ : ∃ k, ds[i]? = some k := ⟨_, List.getElem?_eq_getElem (by omega)⟩
      have hwi : wrapF .i64 ((i : Int) + 1) = ((i + 1 : Nat) : Int) := by rw [wrap64 (by omega)]; rfl
      obtain ⟨B1, o, c', e, _, _, t0⟩ := (hs.ext xx).at hk rfl
      cases e
      obtain ⟨B2, o2, c2', e, _, _, t2⟩ := (hs2.ext xx).at hd rfl
      cases e
      have t0 := t0 0 _ rfl
      have t2 := t2 0 _ rfl
      rw [add_z] at t0 t2
      have hni : ∀ L : List QI, L.Perm (itm (ks.take i)) → (∀ x ∈ L, x.id ≠ (i : Int)) ∧ L.length = i := fun L p => ⟨fun x hx e => by
        obtain ⟨j, hj, hj2⟩ := itm_mem (p.mem_iff.1 hx)
        have := (List.getElem?_eq_some_iff.1 hj2).1
        rw [List.length_take] at this
        omega, by rw [p.length_eq, itm_len, List.length_take]; omega⟩
      obtain ⟨i1, l1⟩ := hni Lp pp
      obtain ⟨i2, l2⟩ := hni Lq pq
      have hnx := itm_take hk
      simp (maxSteps := 1000000) (disch := first | decide | omega | (simp only [go_sem]; first | done | omega)) only [go_sem, Int.reduceToNat, Nat.reduceMul, Nat.reduceAdd, Nat.reduceSub, ↓EU_region, ↓EU_draw, g0, g1, g13, g14, g15, d, t0, t2]
      repeat refine WPo_ob ?_
      refine (dput_new rp k dd (i : Int) (by omega) i1 (by omega)).mono ?_
      rintro ⟨v3, h3⟩ ⟨rfl, lp', Lp', sp', rp', m3, w3, p3, _⟩
      simp only at rp' m3
      have hle := xx.le
      have xx3 : Ext h h3 := ⟨Nat.le_trans xx.le m3.le, fun j hj => (m3.old j (Nat.lt_of_lt_of_le hj xx.le) (fun e => by have := np' j e; omega)).trans (xx.old j hj)⟩
      have rq3 := rq.modO m3 (fun j e1 e2 => dj j e2 e1)
      obtain ⟨B1, o, c', e, _, _, t3⟩ := (hs.ext xx3).at hk rfl
      cases e
      obtain ⟨B2, o2, c2', e, _, _, t4⟩ := (hs2.ext xx3).at hd rfl
      cases e
      have t3 := t3 0 _ rfl
      have t4 := t4 0 _ rfl
      rw [add_z] at t3 t4
      simp (maxSteps := 1000000) (disch := first | decide | omega | (simp only [go_sem]; first | done | omega)) only [go_sem, Int.reduceToNat, Nat.reduceMul, Nat.reduceAdd, Nat.reduceSub, ↓EU_region, ↓EU_draw, g0, g1, g13, g14, g15, t3, t4]
      repeat refine WPo_ob ?_
      refine (dput_new rq3 k dd (i : Int) (by omega) i2 (by omega)).mono ?_
      rintro ⟨v4, h4⟩ ⟨rfl, lq', Lq', sq', rq', m4, w4, p4, _⟩
      simp only at rq' m4
      have dj3 : ∀ j, DZ BP bp dp lp' mp j → ¬ DZ BQ bq dq lq mq j := fun j e1 e2 => by
        rcases w3 j e1 with k | k
        · exact dj j k e2
        · have := rq.blk e2; omega
      have rp4 := rp'.modO m4 dj3
      have xx4 : Ext h h4 := ⟨Nat.le_trans xx3.le m4.le, fun j hj => (m4.old j (Nat.lt_of_lt_of_le hj xx3.le) (fun e => by have := nq' j e; omega)).trans (xx3.old j hj)⟩
      simp (maxSteps := 1000000) (disch := first | decide | omega | (simp only [go_sem]; first | done | omega)) only [go_sem, Int.reduceToNat, Nat.reduceMul, Nat.reduceAdd, Nat.reduceSub, ↓EU_region, ↓EU_draw, g15, hwi]
      refine ⟨ks.length - (i + 1), hmm, i + 1, _, h4, lp', sp', Lp', lq', sq', Lq', _, _, rfl, rfl, hi1, by simp (maxSteps := 1000000) (disch := first | decide | omega | (simp only [go_sem]; first | done | omega)) only [go_sem, Int.reduceToNat, Nat.reduceMul, Nat.reduceAdd, Nat.reduceSub, ↓EU_region, ↓EU_draw, g0], by simp (maxSteps := 1000000) (disch := first | decide | omega | (simp only [go_sem]; first | done | omega)) only [go_sem, Int.reduceToNat, Nat.reduceMul, Nat.reduceAdd, Nat.reduceSub, ↓EU_region, ↓EU_draw, g1], by simp (maxSteps := 1000000) (disch := first | decide | omega | (simp only [go_sem]; first | done | omega)) only [go_sem, Int.reduceToNat, Nat.reduceMul, Nat.reduceAdd, Nat.reduceSub, ↓EU_region, ↓EU_draw, g2], by simp (maxSteps := 1000000) (disch := first | decide | omega | (simp only [go_sem]; first | done | omega)) only [go_sem, Int.reduceToNat, Nat.reduceMul, Nat.reduceAdd, Nat.reduceSub, ↓EU_region, ↓EU_draw, g3], by simp (maxSteps := 1000000) (disch := first | decide | omega | (simp only [go_sem]; first | done | omega)) only [go_sem, Int.reduceToNat, Nat.reduceMul, Nat.reduceAdd, Nat.reduceSub, ↓EU_region, ↓EU_draw, g4], by simp (maxSteps := 1000000) (disch := first | decide | omega | (simp only [go_sem]; first | done | omega)) only [go_sem, Int.reduceToNat, Nat.reduceMul, Nat.reduceAdd, Nat.reduceSub, ↓EU_region, ↓EU_draw, g5], by simp (maxSteps := 1000000) (disch := first | decide | omega | (simp only [go_sem]; first | done | omega)) only [go_sem, Int.reduceToNat, Nat.reduceMul, Nat.reduceAdd, Nat.reduceSub, ↓EU_region, ↓EU_draw, g13], by simp (maxSteps := 1000000) (disch := first | decide | omega | (simp only [go_sem]; first | done | omega)) only [go_sem, Int.reduceToNat, Nat.reduceMul, Nat.reduceAdd, Nat.reduceSub, ↓EU_region, ↓EU_draw, g14], by simp (maxSteps := 1000000) (disch := first | decide | omega | (simp only [go_sem]; first | done | omega)) only [go_sem, Int.reduceToNat, Nat.reduceMul, Nat.reduceAdd, Nat.reduceSub, ↓EU_region, ↓EU_draw], rp4, rq', fun j e1 e2 => ?_, fun j e => ?_, fun j e => ?_, ?_, ?_, rfl, fun j z hj hz => ?_, xx4⟩
      · rcases w4 j e2 with k | k
        · exact dj3 j e1 k
        · have := rp'.blk e1; omega
      · rcases w3 j e with k | k
        · exact np' j k
        · omega
      · rcases w4 j e with k | k
        · exact nq' j k
        · have := xx3.le; omega
      · rw [hnx]; exact p3.trans ((pp.cons _).trans (List.perm_append_singleton _ _).symm)
      · rw [hnx]; exact p4.trans ((pq.cons _).trans (List.perm_append_singleton _ _).symm)
      · unfold updD
        by_cases e : j = i
        · subst e
          rw [hd] at hz
          cases hz
          rw [if_pos rfl]
        · rw [if_neg (by omega)]
          exact hdu j z (by omega) hz
    · have d : decide ((i : Int) < (ks.length : Int)) = false := decide_eq_false (by omega)
      have : i = ks.length := by omega
      subst this
      rw [List.take_length] at pp pq
      simp (maxSteps := 1000000) (disch := first | decide | omega | (simp only [go_sem]; first | done | omega)) only [go_sem, Int.reduceToNat, Nat.reduceMul, Nat.reduceAdd, Nat.reduceSub, ↓EU_region, ↓EU_draw, g0, g15, d]
      exact ⟨_, h', lp, sp, Lp, lq, sq, Lq, dup, rfl, trivial, by simp (maxSteps := 1000000) (disch := first | decide | omega | (simp only [go_sem]; first | done | omega)) only [go_sem, Int.reduceToNat, Nat.reduceMul, Nat.reduceAdd, Nat.reduceSub, ↓EU_region, ↓EU_draw, g0], by simp (maxSteps := 1000000) (disch := first | decide | omega | (simp only [go_sem]; first | done | omega)) only [go_sem, Int.reduceToNat, Nat.reduceMul, Nat.reduceAdd, Nat.reduceSub, ↓EU_region, ↓EU_draw, g1], by simp (maxSteps := 1000000) (disch := first | decide | omega | (simp only [go_sem]; first | done | omega)) only [go_sem, Int.reduceToNat, Nat.reduceMul, Nat.reduceAdd, Nat.reduceSub, ↓EU_region, ↓EU_draw, g2], by simp (maxSteps := 1000000) (disch := first | decide | omega | (simp only [go_sem]; first | done | omega)) only [go_sem, Int.reduceToNat, Nat.reduceMul, Nat.reduceAdd, Nat.reduceSub, ↓EU_region, ↓EU_draw, g3], by simp (maxSteps := 1000000) (disch := first | decide | omega | (simp only [go_sem]; first | done | omega)) only [go_sem, Int.reduceToNat, Nat.reduceMul, Nat.reduceAdd, Nat.reduceSub, ↓EU_region, ↓EU_draw, g4], by simp (maxSteps := 1000000) (disch := first | decide | omega | (simp only [go_sem]; first | done | omega)) only [go_sem, Int.reduceToNat, Nat.reduceMul, Nat.reduceAdd, Nat.reduceSub, ↓EU_region, ↓EU_draw, g5], by simp (maxSteps := 1000000) (disch := first | decide | omega | (simp only [go_sem]; first | done | omega)) only [go_sem, Int.reduceToNat, Nat.reduceMul, Nat.reduceAdd, Nat.reduceSub, ↓EU_region, ↓EU_draw, g13], by simp (maxSteps := 1000000) (disch := first | decide | omega | (simp only [go_sem]; first | done | omega)) only [go_sem, Int.reduceToNat, Nat.reduceMul, Nat.reduceAdd, Nat.reduceSub, ↓EU_region, ↓EU_draw, g14], rp, rq, dj, np', nq', pp, pq, hdu, xx⟩
  · refine ⟨0, _, h2, _, _, [], _, _, [], _, _, rfl, rfl, by omega, by simp (maxSteps := 1000000) (disch := first | decide | omega | (simp only [go_sem]; first | done | omega)) only [go_sem, Int.reduceToNat, Nat.reduceMul, Nat.reduceAdd, Nat.reduceSub, ↓EU_region, ↓EU_draw], by simp (maxSteps := 1000000) (disch := first | decide | omega | (simp only [go_sem]; first | done | omega)) only [go_sem, Int.reduceToNat, Nat.reduceMul, Nat.reduceAdd, Nat.reduceSub, ↓EU_region, ↓EU_draw], by simp (maxSteps := 1000000) (disch := first | decide | omega | (simp only [go_sem]; first | done | omega)) only [go_sem, Int.reduceToNat, Nat.reduceMul, Nat.reduceAdd, Nat.reduceSub, ↓EU_region, ↓EU_draw], by simp (maxSteps := 1000000) (disch := first | decide | omega | (simp only [go_sem]; first | done | omega)) only [go_sem, Int.reduceToNat, Nat.reduceMul, Nat.reduceAdd, Nat.reduceSub, ↓EU_region, ↓EU_draw], by simp (maxSteps := 1000000) (disch := first | decide | omega | (simp only [go_sem]; first | done | omega)) only [go_sem, Int.reduceToNat, Nat.reduceMul, Nat.reduceAdd, Nat.reduceSub, ↓EU_region, ↓EU_draw], by simp (maxSteps := 1000000) (disch := first | decide | omega | (simp only [go_sem]; first | done | omega)) only [go_sem, Int.reduceToNat, Nat.reduceMul, Nat.reduceAdd, Nat.reduceSub, ↓EU_region, ↓EU_draw], by simp (maxSteps := 1000000) (disch := first | decide | omega | (simp only [go_sem]; first | done | omega)) only [go_sem, Int.reduceToNat, Nat.reduceMul, Nat.reduceAdd, Nat.reduceSub, ↓EU_region, ↓EU_draw], by simp (maxSteps := 1000000) (disch := first | decide | omega | (simp only [go_sem]; first | done | omega)) only [go_sem, Int.reduceToNat, Nat.reduceMul, Nat.reduceAdd, Nat.reduceSub, ↓EU_region, ↓EU_draw], by simp (maxSteps := 1000000) (disch := first | decide | omega | (simp only [go_sem]; first | done | omega)) only [go_sem, Int.reduceToNat, Nat.reduceMul, Nat.reduceAdd, Nat.reduceSub, ↓EU_region, ↓EU_draw]; rfl, qp, qq, fun j f1 f2 => ?_, np, fun j e => ?_, List.Perm.refl _, List.Perm.refl _, rfl, fun j z hj => by omega, x12⟩
    · have := ltp j f1
      have := nq j f2
      omega
    · have := nq j e
      have := x1.le
      omega
  · omega
  rintro ⟨_, _⟩ ⟨tm, h', lp, sp, Lp, lq, sq, Lq, du, rfl, rfl, g0, g1, g2, g3, g4, g5, g13, g14, rp, rq, dj, np', nq', pp, pq, hdu, xx⟩
  obtain ⟨w, rfl⟩ := Int.eq_ofNat_of_zero_le (show 0 ≤ id by omega)
  obtain ⟨k0, hk0⟩ : ∃ k0, ks[w]? = some k0 := ⟨_, List.getElem?_eq_getElem (by omega)⟩
  obtain ⟨dw, hdw⟩ : ∃ k0, ds[w]? = some k0 := ⟨_, List.getElem?_eq_getElem (by omega)⟩
  have hduw := hdu w dw (by omega) hdw
  have hmem : (⟨k0, (w : Int)⟩ : QI) ∈ itm ks := by
    apply List.mem_of_getElem? (i := w)
    rw [itm_get, hk0]; rfl
  have lenp : Lp.length = ks.length := by rw [pp.length_eq, itm_len]
  have lenq : Lq.length = ks.length := by rw [pq.length_eq, itm_len]
  simp (maxSteps := 1000000) (disch := first | decide | omega | (simp only [go_sem]; first | done | omega)) only [go_sem, Int.reduceToNat, Nat.reduceMul, Nat.reduceAdd, Nat.reduceSub, ↓EU_region, ↓EU_draw, g2, g3, g4, g13]
  repeat refine WPo_ob ?_
  refine (dset_ev rp (w : Int) key due (by omega)).mono ?_
  rintro ⟨v3, h3⟩ (⟨_, _, hn⟩ | ⟨n, x, hx, hxid, f3, Lp', sp', rp3, m3, p3, _⟩)
  · obtain ⟨n, hn2⟩ := List.getElem?_of_mem (pp.mem_iff.2 hmem)
    exact absurd rfl (hn n _ hn2)
  simp only at f3 rp3 m3
  subst f3
  have rq3 := rq.modO m3 (fun j e1 e2 => dj j e2 e1)
  simp (maxSteps := 1000000) (disch := first | decide | omega | (simp only [go_sem]; first | done | omega)) only [go_sem, Int.reduceToNat, Nat.reduceMul, Nat.reduceAdd, Nat.reduceSub, ↓EU_region, ↓EU_draw, g2, g14]
  repeat refine WPo_ob ?_
  refine (ddrop_ev rq3 (w : Int) (by omega)).mono ?_
  rintro ⟨v4, h4⟩ (⟨_, _, hn⟩ | ⟨n2, y, hy, hyid, f4, lq4, Lq', sq', rq4, m4, w4, p4, _⟩)
  · obtain ⟨n, hn2⟩ := List.getElem?_of_mem (pq.mem_iff.2 hmem)
    exact absurd rfl (hn n _ hn2)
  simp only at f4 rq4 m4
  subst f4
  unfold rE ful
  have yk : y = ⟨k0, (w : Int)⟩ := by
    obtain ⟨j, hj⟩ := List.getElem?_of_mem (pq.mem_iff.2 hmem)
    have := rq.qr.uniq hy hj hyid
    subst this
    rw [hy] at hj
    exact Option.some.inj hj
  subst yk
  have dj4 : ∀ j, DZ BQ bq dq lq4 mq j → ¬ DZ BP bp dp lp mp j := fun j e1 e2 => dj j e2 (w4 j e1)
  have rp4 := rp3.modO m4 dj
  have hmm3 := m3.le
  have hmm4 := m4.le
  have xx4 : Ext h h4 := ⟨by have := xx.le; omega, fun j hj => by
    have := xx.le
    rw [m4.old j (by omega) (fun e => by have := nq' j e; omega), m3.old j (by omega) (fun e => by have := np' j e; omega)]
    exact xx.old j hj⟩
  have x5 : Ext h4 (h4.push (.cells [.int .i64 k0, .int .i64 (du (w : Int)), .int .i64 (w : Int)] 0)) := (Ext.refl h4).push _
  have k5 : (h4.push (.cells [.int .i64 k0, .int .i64 (du (w : Int)), .int .i64 (w : Int)] 0)).get h4.next = .cells [.int .i64 k0, .int .i64 (du (w : Int)), .int .i64 (w : Int)] 0 := get_push_new _ _
  have n5 : (h4.push (.cells [.int .i64 k0, .int .i64 (du (w : Int)), .int .i64 (w : Int)] 0)).next = h4.next + 1 := next_push _ _
  have rp5 := rp4.ext x5
  have rq5 := rq4.ext x5
  have xx5 := xx4.trans x5
  have nid : ∀ z ∈ Lq', z.id ≠ (w : Int) := fun z hz e => by
    have nd := rq.qr.nodup
    have nd2 := (p4.map (·.id)).nodup_iff.1 nd
    rw [List.map_cons, List.nodup_cons] at nd2
    exact nd2.1 (by show (w : Int) ∈ _; rw [← e]; exact List.mem_map_of_mem hz)
  have lenq4 : Lq'.length + 1 = ks.length := by rw [← lenq, p4.length_eq]; rfl
  simp (maxSteps := 1000000) (disch := first | decide | omega | (simp only [go_sem]; first | done | omega)) only [go_sem, Int.reduceToNat, Nat.reduceMul, Nat.reduceAdd, Nat.reduceSub, ↓EU_region, ↓EU_draw, g2, g3, g4, g14]
  generalize h4.push (.cells [.int .i64 k0, .int .i64 (du (w : Int)), .int .i64 (w : Int)] 0) = h5 at *
  repeat refine WPo_ob ?_
  refine (dput_new rq5 key due (w : Int) (by omega) nid (by omega)).mono ?_
  rintro ⟨v6, h6⟩ ⟨rfl, lq6, Lq6, sq6, rq6, m6, w6, p6, _⟩
  simp only at rq6 m6
  have rp6 := rp5.modO m6 (fun j e1 e2 => dj4 j e2 e1)
  have hmm6 := m6.le
  have nq4 : ∀ j, DZ BQ bq dq lq4 mq j → h.next ≤ j := fun j e => nq' j (w4 j e)
  have k6 : h6.get h4.next = _ := (m6.old h4.next (by omega) (fun e => by have := rq4.blk e; omega)).trans k5
  have xx6 : Ext h h6 := ⟨by have := xx5.le; omega, fun j hj => by
    have := xx5.le
    rw [m6.old j (by omega) (fun e => by have := nq4 j e; omega)]
    exact xx5.old j hj⟩
  have lenp3 : Lp'.length = ks.length := by rw [p3.length_eq, List.length_set, lenp]
  have lenq6 : Lq6.length = ks.length := by rw [p6.length_eq, ← lenq4]; rfl
  have hxy : x = ⟨k0, (w : Int)⟩ := by
    obtain ⟨m, hm⟩ := List.getElem?_of_mem (pp.mem_iff.2 hmem)
    have := rp.qr.uniq hx hm hxid
    subst this
    rw [hx] at hm
    exact Option.some.inj hm
  subst hxy
  obtain ⟨r, hr1, hr2⟩ := set_perm (y := ⟨key, (w : Int)⟩) hx
  have hrq : r.Perm Lq' := (List.perm_cons _).1 (hr1.symm.trans (pp.trans (pq.symm.trans p4)))
  have hLL : Lp'.Perm Lq6 := p3.trans (hr2.trans ((hrq.cons _).trans p6.symm))
  simp (maxSteps := 1000000) (disch := first | decide | omega | (simp only [go_sem]; first | done | omega)) only [go_sem, Int.reduceToNat, Nat.reduceMul, Nat.reduceAdd, Nat.reduceSub, ↓EU_region, ↓EU_draw, g5, g13]
  repeat refine WPo_ob ?_
  refine (dfirst_ev rp6 most (by omega)).mono ?_
  rintro ⟨v7, h7⟩ ⟨⟨⟨u7, b7⟩, fs7, rfl⟩, x7⟩
  simp only at x7
  have hle7 := x7.le
  have x7 := x7.push (.cells [.int .i64 u7.key, .int .i64 u7.due, .int .i64 u7.id] 0)
  have k7 : (h7.push (.cells [.int .i64 u7.key, .int .i64 u7.due, .int .i64 u7.id] 0)).get h7.next = .cells [.int .i64 u7.key, .int .i64 u7.due, .int .i64 u7.id] 0 := get_push_new _ _
  have n7 : (h7.push (.cells [.int .i64 u7.key, .int .i64 u7.due, .int .i64 u7.id] 0)).next = h7.next + 1 := next_push _ _
  have rq7 := rq6.ext x7
  have rp7 := rp6.ext x7
  have xx7 := xx6.trans x7
  have k67 := (x7.old h4.next (by omega)).trans k6
  unfold rE
  simp (maxSteps := 1000000) (disch := first | decide | omega | (simp only [go_sem]; first | done | omega)) only [go_sem, Int.reduceToNat, Nat.reduceMul, Nat.reduceAdd, Nat.reduceSub, ↓EU_region, ↓EU_draw, g5, g14]
  generalize h7.push (.cells [.int .i64 u7.key, .int .i64 u7.due, .int .i64 u7.id] 0) = h7b at *
  repeat refine WPo_ob ?_
  refine (dfirst_ev rq7 most (by omega)).mono ?_
  rintro ⟨v8, h8⟩ ⟨⟨⟨u8, b8⟩, fs8, rfl⟩, x8⟩
  simp only at x8
  have hsame : ((u7, b7) : RI × Bool) = (u8, b8) := (fs7.sp (wholeL_so _ _)).uniq (fs8.sp (wholeL_so _ _)) (fun z => by
    rw [wholeL_mem, wholeL_mem]
    constructor
    · rintro ⟨u, hu, e⟩
      exact ⟨u, hLL.mem_iff.1 hu, e⟩
    · rintro ⟨u, hu, e⟩
      exact ⟨u, hLL.mem_iff.2 hu, e⟩) (wholeL_uniq rp7.qr.nodup)
  cases hsame
  have hle8 := x8.le
  have x8 := x8.push (.cells [.int .i64 u7.key, .int .i64 u7.due, .int .i64 u7.id] 0)
  have k8 : (h8.push (.cells [.int .i64 u7.key, .int .i64 u7.due, .int .i64 u7.id] 0)).get h8.next = .cells [.int .i64 u7.key, .int .i64 u7.due, .int .i64 u7.id] 0 := get_push_new _ _
  have n8 : (h8.push (.cells [.int .i64 u7.key, .int .i64 u7.due, .int .i64 u7.id] 0)).next = h8.next + 1 := next_push _ _
  have k78 := (x8.old h7.next (by omega)).trans k7
  have k68 := (x8.old h4.next (by omega)).trans k67
  have lp8 := dlen_ev (rp7.ext x8)
  have lq8 := dlen_ev (rq7.ext x8)
  have xx8 := xx7.trans x8
  obtain ⟨B1, o, c', e, _, _, t0⟩ := (hs.ext xx8).at hk0 rfl
  cases e
  obtain ⟨B2, o2, c2', e, _, _, t2⟩ := (hs2.ext xx8).at hdw rfl
  cases e
  have t0 := t0 0 _ rfl
  have t2 := t2 0 _ rfl
  rw [add_z] at t0 t2
  unfold rE
  simp (maxSteps := 1000000) (disch := first | decide | omega | (simp only [go_sem]; first | done | omega)) only [go_sem, Int.reduceToNat, Nat.reduceMul, Nat.reduceAdd, Nat.reduceSub]
  generalize h8.push (.cells [.int .i64 u7.key, .int .i64 u7.due, .int .i64 u7.id] 0) = h8b at *
  have rr : ∀ p q, evBin Try.prog .eql 29 p q (.agg ⟨[.int .i64 u7.key, .int .i64 u7.due, .int .i64 u7.id]⟩) (.agg ⟨[.int .i64 u7.key, .int .i64 u7.due, .int .i64 u7.id]⟩) = some (.bool true) := fun p q => by
    rw [r_eql, rEq_self]
  rw [hduw] at k68
  simp (maxSteps := 1000000) (disch := first | decide | omega | (simp only [go_sem]; first | done | omega)) only [go_sem, Int.reduceToNat, Nat.reduceMul, Nat.reduceAdd, Nat.reduceSub, ↓EU_region, ↓EU_draw, g0, g1, g2, g13, g14, k8, k78, k68, rr, bs, dt, t0, t2, lp8, lq8, lenp3, lenq6]
end Go.Proofs.Ytbbdhpjkibbnkaa.EV
