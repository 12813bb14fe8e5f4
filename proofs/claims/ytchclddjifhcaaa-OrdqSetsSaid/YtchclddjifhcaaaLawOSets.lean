/- OrdqSets, plainly. No condition. -/
import Derived.Test.YtchclddjifhcaaaOqI
namespace Go.Proofs.Ytchclddjifhcaaa.EV
open Go Go.Proofs
set_option linter.unusedVariables false
set_option linter.unusedSimpArgs false
set_option maxRecDepth 100000
set_option pp.deepTerms false
set_option pp.deepTerms.threshold 20
theorem set_perm {l : List QI} {n : Nat} {x y : QI} (hx : l[n]? = some x) : ∃ r, l.Perm (x :: r) ∧ (l.set n y).Perm (y :: r) := by
  obtain ⟨hn, rfl⟩ := List.getElem?_eq_some_iff.1 hx
  refine ⟨l.take n ++ l.drop (n + 1), ?_, ?_⟩
  · conv => lhs; rw [← List.take_append_drop n l, List.drop_eq_getElem_cons hn]
    exact List.perm_middle
  · rw [List.set_eq_take_append_cons_drop, if_pos hn]
    exact List.perm_middle
theorem wf_i64 {n : Int} (h : (Lit.int .i64 n).wf = true) : -9223372036854775808 ≤ n ∧ n ≤ 9223372036854775807 := by
  simpa [Lit.wf, IntKind.min, IntKind.max, IntKind.signed, IntKind.bits] using h
set_option maxHeartbeats 4000000 in
theorem law_OrdqSets (h : Heap) (s : Value) (ks : List Int) (hs : SL (intE .i64) 1 h s ks) (wl : ∀ z ∈ ks, (Lit.int .i64 z).wf = true) (id : Int) (wi : (Lit.int .i64 id).wf = true) (key : Int) (wk : (Lit.int .i64 key).wf = true) :
    WPo (EF Try.prog O0 5 [s, .int .i64 id, .int .i64 key] h) fun q => q.1 = .bool true := by
  rw [EF_body (O := O0) (by kernel_rfl) Try.func5 rfl (rs := [.tmp 6]) rfl (bad := []) (by kernel_rfl) _ _ (m := 104) rfl]
  obtain ⟨a, c, rfl⟩ := hs.val
  by_cases c0 : ks.length > 60
  · have d0 : decide ((ks.length : Int) > 60) = true := decide_eq_true (by omega)
    simp (maxSteps := 1000000) (disch := first | decide | omega | (simp only [go_sem]; first | done | omega)) only [go_sem, Int.reduceToNat, Nat.reduceMul, Nat.reduceAdd, Nat.reduceSub, ↓EU_region, ↓EU_draw, awake_ev, d0]
  have d0 : decide ((ks.length : Int) > 60) = false := decide_eq_false (by omega)
  by_cases c1 : id < 0
  · have d1 : decide (id < 0) = true := decide_eq_true c1
    simp (maxSteps := 1000000) (disch := first | decide | omega | (simp only [go_sem]; first | done | omega)) only [go_sem, Int.reduceToNat, Nat.reduceMul, Nat.reduceAdd, Nat.reduceSub, ↓EU_region, ↓EU_draw, awake_ev, d0, d1]
  have d1 : decide (id < 0) = false := decide_eq_false c1
  by_cases c2 : id ≥ (ks.length : Int)
  · have d2 : decide (id ≥ (ks.length : Int)) = true := decide_eq_true c2
    simp (maxSteps := 1000000) (disch := first | decide | omega | (simp only [go_sem]; first | done | omega)) only [go_sem, Int.reduceToNat, Nat.reduceMul, Nat.reduceAdd, Nat.reduceSub, ↓EU_region, ↓EU_draw, awake_ev, d0, d1, d2]
  have d2 : decide (id ≥ (ks.length : Int)) = false := decide_eq_false c2
  simp (maxSteps := 1000000) (disch := first | decide | omega | (simp only [go_sem]; first | done | omega)) only [go_sem, Int.reduceToNat, Nat.reduceMul, Nat.reduceAdd, Nat.reduceSub, ↓EU_region, ↓EU_draw, awake_ev, d0, d1, d2]
  repeat refine WPo_ob ?_
  refine (new_ev 100 h).mono ?_
  rintro ⟨v1, h1⟩ ⟨bp, mp, rfl, qp, x1, np, nmp⟩
  simp only at qp x1
  simp (maxSteps := 1000000) (disch := first | decide | omega | (simp only [go_sem]; first | done | omega)) only [go_sem, Int.reduceToNat, Nat.reduceMul, Nat.reduceAdd, Nat.reduceSub, ↓EU_region, ↓EU_draw]
  repeat refine WPo_ob ?_
  refine (new_ev 100 h1).mono ?_
  rintro ⟨v2, h2⟩ ⟨bq, mq, rfl, qq, x2, nq, nmq⟩
  simp only at qq x2
  have e100 : clampM 100 = 100 := by decide
  rw [e100] at qp qq
  have hb1 := qp.bl
  have hm1 := qp.ml
  have qp := qp.ext x2
  have x12 : Ext h h2 := x1.trans x2
  simp (maxSteps := 1000000) (disch := first | decide | omega | (simp only [go_sem]; first | done | omega)) only [go_sem, Int.reduceToNat, Nat.reduceMul, Nat.reduceAdd, Nat.reduceSub, ↓EU_region, ↓EU_draw]
  repeat refine WPo_ob ?_
  refine (LP_rule (fun m st => ∃ (i : Nat) (tm : Fr) (h' : Heap) (lp : Value) (sp : Int) (Lp : List QI) (lq : Value) (sq : Int) (Lq : List QI), st = ⟨tm, h', []⟩ ∧ m = ks.length - i ∧ i ≤ ks.length ∧ Fr.get tm 0 = .slice a ks.length c ∧ Fr.get tm 1 = .int .i64 id ∧ Fr.get tm 2 = .int .i64 key ∧ Fr.get tm 7 = ptr bp 0 ∧ Fr.get tm 8 = ptr bq 0 ∧ Fr.get tm 9 = .int .i64 (i : Int) ∧ QR h' bp lp mp 100 sp Lp ∧ QR h' bq lq mq 100 sq Lq ∧ (∀ j, QS bp lp mp j → ¬ QS bq lq mq j) ∧ (∀ j, QS bp lp mp j → h.next ≤ j) ∧ (∀ j, QS bq lq mq j → h.next ≤ j) ∧ Lp.Perm (itm (ks.take i)) ∧ Lq.Perm (itm (ks.take i)) ∧ Ext h h')
    (fun q => ∃ (tm : Fr) (h' : Heap) (lp : Value) (sp : Int) (Lp : List QI) (lq : Value) (sq : Int) (Lq : List QI), q.2 = ⟨tm, h', []⟩ ∧ q.1 = .exit 0 ∧ Fr.get tm 1 = .int .i64 id ∧ Fr.get tm 2 = .int .i64 key ∧ Fr.get tm 7 = ptr bp 0 ∧ Fr.get tm 8 = ptr bq 0 ∧ QR h' bp lp mp 100 sp Lp ∧ QR h' bq lq mq 100 sq Lq ∧ (∀ j, QS bp lp mp j → ¬ QS bq lq mq j) ∧ Lp.Perm (itm ks) ∧ Lq.Perm (itm ks)) ?_ ks.length _ _ ?_ ?_).mono ?_
  · rintro m _ ⟨i, tm, h', lp, sp, Lp, lq, sq, Lq, rfl, hm, hi, g0, g1, g2, g7, g8, g9, rp, rq, dj, np', nq', pp, pq, xx⟩
    by_cases q : i < ks.length
    · have d : decide ((i : Int) < (ks.length : Int)) = true := decide_eq_true (by omega)
      obtain ⟨k, hk⟩ : ∃ k, ks[i]? = some k := ⟨_, List.getElem?_eq_getElem q⟩
      have hwi : wrapF .i64 ((i : Int) + 1) = ((i + 1 : Nat) : Int) := by rw [wrap64 (by omega)]; rfl
      obtain ⟨B, o, c', e, _, _, t0⟩ := (hs.ext xx).at hk rfl
      cases e
      have t0 := t0 0 _ rfl
      rw [add_z] at t0
      have hni : ∀ L : List QI, L.Perm (itm (ks.take i)) → (∀ x ∈ L, x.id ≠ (i : Int)) ∧ L.length = i := fun L p => ⟨fun x hx e => by
        obtain ⟨j, hj, hj2⟩ := itm_mem (p.mem_iff.1 hx)
        have := (List.getElem?_eq_some_iff.1 hj2).1
        rw [List.length_take] at this
        omega, by rw [p.length_eq, itm_len, List.length_take]; omega⟩
      obtain ⟨i1, l1⟩ := hni Lp pp
      obtain ⟨i2, l2⟩ := hni Lq pq
      have hnx := itm_take hk
      simp (maxSteps := 1000000) (disch := first | decide | omega | (simp only [go_sem]; first | done | omega)) only [go_sem, Int.reduceToNat, Nat.reduceMul, Nat.reduceAdd, Nat.reduceSub, ↓EU_region, ↓EU_draw, g0, g7, g8, g9, d, t0]
      repeat refine WPo_ob ?_
      refine (put_new rp k (i : Int) (by omega) i1 (by omega)).mono ?_
      rintro ⟨v3, h3⟩ ⟨rfl, lp', Lp', sp', rp', m3, w3, p3, _⟩
      simp only at rp' m3
      have xx3 : Ext h h3 := ⟨Nat.le_trans xx.le m3.le, fun j hj => (m3.old j (Nat.lt_of_lt_of_le hj xx.le) (fun e => by have := np' j e; omega)).trans (xx.old j hj)⟩
      have rq3 := rq.modO m3 (fun j e1 e2 => dj j e2 e1)
      obtain ⟨B, o, c', e, _, _, t3⟩ := (hs.ext xx3).at hk rfl
      cases e
      have t3 := t3 0 _ rfl
      rw [add_z] at t3
      simp (maxSteps := 1000000) (disch := first | decide | omega | (simp only [go_sem]; first | done | omega)) only [go_sem, Int.reduceToNat, Nat.reduceMul, Nat.reduceAdd, Nat.reduceSub, ↓EU_region, ↓EU_draw, g0, g7, g8, g9, t3]
      repeat refine WPo_ob ?_
      refine (put_new rq3 k (i : Int) (by omega) i2 (by omega)).mono ?_
      rintro ⟨v4, h4⟩ ⟨rfl, lq', Lq', sq', rq', m4, w4, p4, _⟩
      simp only at rq' m4
      have hle := xx.le
      have dj3 : ∀ j, QS bp lp' mp j → ¬ QS bq lq mq j := fun j e1 e2 => by
        rcases w3 j e1 with k | k
        · exact dj j k e2
        · have := rq.blk e2; omega
      have rp4 := rp'.modO m4 dj3
      have xx4 : Ext h h4 := ⟨Nat.le_trans xx3.le m4.le, fun j hj => (m4.old j (Nat.lt_of_lt_of_le hj xx3.le) (fun e => by have := nq' j e; omega)).trans (xx3.old j hj)⟩
      simp (maxSteps := 1000000) (disch := first | decide | omega | (simp only [go_sem]; first | done | omega)) only [go_sem, Int.reduceToNat, Nat.reduceMul, Nat.reduceAdd, Nat.reduceSub, ↓EU_region, ↓EU_draw, g9, hwi]
      refine ⟨ks.length - (i + 1), by omega, i + 1, _, h4, lp', sp', Lp', lq', sq', Lq', rfl, rfl, by omega, by simp (maxSteps := 1000000) (disch := first | decide | omega | (simp only [go_sem]; first | done | omega)) only [go_sem, Int.reduceToNat, Nat.reduceMul, Nat.reduceAdd, Nat.reduceSub, ↓EU_region, ↓EU_draw, g0], by simp (maxSteps := 1000000) (disch := first | decide | omega | (simp only [go_sem]; first | done | omega)) only [go_sem, Int.reduceToNat, Nat.reduceMul, Nat.reduceAdd, Nat.reduceSub, ↓EU_region, ↓EU_draw, g1], by simp (maxSteps := 1000000) (disch := first | decide | omega | (simp only [go_sem]; first | done | omega)) only [go_sem, Int.reduceToNat, Nat.reduceMul, Nat.reduceAdd, Nat.reduceSub, ↓EU_region, ↓EU_draw, g2], by simp (maxSteps := 1000000) (disch := first | decide | omega | (simp only [go_sem]; first | done | omega)) only [go_sem, Int.reduceToNat, Nat.reduceMul, Nat.reduceAdd, Nat.reduceSub, ↓EU_region, ↓EU_draw, g7], by simp (maxSteps := 1000000) (disch := first | decide | omega | (simp only [go_sem]; first | done | omega)) only [go_sem, Int.reduceToNat, Nat.reduceMul, Nat.reduceAdd, Nat.reduceSub, ↓EU_region, ↓EU_draw, g8], by simp (maxSteps := 1000000) (disch := first | decide | omega | (simp only [go_sem]; first | done | omega)) only [go_sem, Int.reduceToNat, Nat.reduceMul, Nat.reduceAdd, Nat.reduceSub, ↓EU_region, ↓EU_draw], rp4, rq', fun j e1 e2 => ?_, fun j e => ?_, fun j e => ?_, ?_, ?_, xx4⟩
      · rcases w4 j e2 with k | k
        · exact dj3 j e1 k
        · have := rp'.blk e1; omega
      · rcases w3 j e with k | k
        · exact np' j k
        · omega
      · rcases w4 j e with k | k
        · exact nq' j k
        · have := xx3.le; omega
      · rw [hnx]; exact p3.trans ((pp.cons _).trans (List.perm_append_singleton _ _).symm)
      · rw [hnx]; exact p4.trans ((pq.cons _).trans (List.perm_append_singleton _ _).symm)
    · have d : decide ((i : Int) < (ks.length : Int)) = false := decide_eq_false (by omega)
      have : i = ks.length := by omega
      subst this
      rw [List.take_length] at pp pq
      simp (maxSteps := 1000000) (disch := first | decide | omega | (simp only [go_sem]; first | done | omega)) only [go_sem, Int.reduceToNat, Nat.reduceMul, Nat.reduceAdd, Nat.reduceSub, ↓EU_region, ↓EU_draw, g0, g9, d]
      exact ⟨_, h', lp, sp, Lp, lq, sq, Lq, rfl, trivial, by simp (maxSteps := 1000000) (disch := first | decide | omega | (simp only [go_sem]; first | done | omega)) only [go_sem, Int.reduceToNat, Nat.reduceMul, Nat.reduceAdd, Nat.reduceSub, ↓EU_region, ↓EU_draw, g1], by simp (maxSteps := 1000000) (disch := first | decide | omega | (simp only [go_sem]; first | done | omega)) only [go_sem, Int.reduceToNat, Nat.reduceMul, Nat.reduceAdd, Nat.reduceSub, ↓EU_region, ↓EU_draw, g2], by simp (maxSteps := 1000000) (disch := first | decide | omega | (simp only [go_sem]; first | done | omega)) only [go_sem, Int.reduceToNat, Nat.reduceMul, Nat.reduceAdd, Nat.reduceSub, ↓EU_region, ↓EU_draw, g7], by simp (maxSteps := 1000000) (disch := first | decide | omega | (simp only [go_sem]; first | done | omega)) only [go_sem, Int.reduceToNat, Nat.reduceMul, Nat.reduceAdd, Nat.reduceSub, ↓EU_region, ↓EU_draw, g8], rp, rq, dj, pp, pq⟩
  · refine ⟨0, _, h2, _, _, [], _, _, [], rfl, rfl, by omega, by simp (maxSteps := 1000000) (disch := first | decide | omega | (simp only [go_sem]; first | done | omega)) only [go_sem, Int.reduceToNat, Nat.reduceMul, Nat.reduceAdd, Nat.reduceSub, ↓EU_region, ↓EU_draw], by simp (maxSteps := 1000000) (disch := first | decide | omega | (simp only [go_sem]; first | done | omega)) only [go_sem, Int.reduceToNat, Nat.reduceMul, Nat.reduceAdd, Nat.reduceSub, ↓EU_region, ↓EU_draw], by simp (maxSteps := 1000000) (disch := first | decide | omega | (simp only [go_sem]; first | done | omega)) only [go_sem, Int.reduceToNat, Nat.reduceMul, Nat.reduceAdd, Nat.reduceSub, ↓EU_region, ↓EU_draw], by simp (maxSteps := 1000000) (disch := first | decide | omega | (simp only [go_sem]; first | done | omega)) only [go_sem, Int.reduceToNat, Nat.reduceMul, Nat.reduceAdd, Nat.reduceSub, ↓EU_region, ↓EU_draw], by simp (maxSteps := 1000000) (disch := first | decide | omega | (simp only [go_sem]; first | done | omega)) only [go_sem, Int.reduceToNat, Nat.reduceMul, Nat.reduceAdd, Nat.reduceSub, ↓EU_region, ↓EU_draw], by simp (maxSteps := 1000000) (disch := first | decide | omega | (simp only [go_sem]; first | done | omega)) only [go_sem, Int.reduceToNat, Nat.reduceMul, Nat.reduceAdd, Nat.reduceSub, ↓EU_region, ↓EU_draw]; rfl, qp, qq, ?_, ?_, ?_, List.Perm.refl _, List.Perm.refl _, x12⟩
    · rintro j (e | e | e) (f | f | f)
      all_goals first | exact e.elim | exact f.elim | omega
    · have := x1.le
      rintro j (e | e | e)
      · omega
      · omega
      · exact e.elim
    · have := x1.le
      rintro j (e | e | e)
      · omega
      · omega
      · exact e.elim
  · omega
  · rintro ⟨_, _⟩ ⟨tm, h', lp, sp, Lp, lq, sq, Lq, rfl, rfl, g1, g2, g7, g8, rp, rq, dj, pp, pq⟩
    obtain ⟨w, rfl⟩ := Int.eq_ofNat_of_zero_le (show 0 ≤ id by omega)
    obtain ⟨k0, hk0⟩ : ∃ k0, ks[w]? = some k0 := ⟨_, List.getElem?_eq_getElem (by omega)⟩
    have hmem : (⟨k0, (w : Int)⟩ : QI) ∈ itm ks := by
      apply List.mem_of_getElem? (i := w)
      rw [itm_get, hk0]; rfl
    have lenp : Lp.length = ks.length := by rw [pp.length_eq, itm_len]
    have lenq : Lq.length = ks.length := by rw [pq.length_eq, itm_len]
    simp (maxSteps := 1000000) (disch := first | decide | omega | (simp only [go_sem]; first | done | omega)) only [go_sem, Int.reduceToNat, Nat.reduceMul, Nat.reduceAdd, Nat.reduceSub, ↓EU_region, ↓EU_draw, g1, g2, g7]
    repeat refine WPo_ob ?_
    refine (qset_ev rp (w : Int) key (by omega)).mono ?_
    rintro ⟨v3, h3⟩ (⟨_, _, hn⟩ | ⟨n, x, hx, hxid, e3, Lp', sp', _, rp3, m3, p3, _, _, _⟩)
    · obtain ⟨n, hn2⟩ := List.getElem?_of_mem (pp.mem_iff.2 hmem)
      exact absurd rfl (hn n _ hn2)
    simp only at e3 rp3 m3
    subst e3
    have rq3 := rq.modO m3 (fun j e1 e2 => dj j e2 e1)
    simp (maxSteps := 1000000) (disch := first | decide | omega | (simp only [go_sem]; first | done | omega)) only [go_sem, Int.reduceToNat, Nat.reduceMul, Nat.reduceAdd, Nat.reduceSub, ↓EU_region, ↓EU_draw, g1, g2, g8]
    repeat refine WPo_ob ?_
    refine (qdrop_ev rq3 (w : Int) (by omega)).mono ?_
    rintro ⟨v4, h4⟩ (⟨_, _, hn⟩ | ⟨n2, y, hy, hyid, e4, lq4, Lq', sq', _, rq4, m4, w4, p4, _, _, _⟩)
    · obtain ⟨n, hn2⟩ := List.getElem?_of_mem (pq.mem_iff.2 hmem)
      exact absurd rfl (hn n _ hn2)
    simp only at e4 rq4 m4
    subst e4
    unfold qE
    have dj4 : ∀ j, QS bq lq4 mq j → ¬ QS bp lp mp j := fun j e1 e2 => by
      rcases e1 with e | e | e
      · exact dj j e2 (.inl e)
      · exact dj j e2 (.inr (.inl e))
      · exact dj j e2 (.inr (.inr (w4 j e)))
    have rp4 := rp3.modO m4 dj
    have x5 : Ext h4 (h4.push (.cells [.int .i64 y.key, .int .i64 y.id] 0)) := (Ext.refl h4).push _
    have rp5 := rp4.ext x5
    have rq5 := rq4.ext x5
    have nid : ∀ z ∈ Lq', z.id ≠ (w : Int) := fun z hz e => by
      have nd := rq.nodup
      have nd2 := (p4.map (·.id)).nodup_iff.1 nd
      rw [List.map_cons, List.nodup_cons] at nd2
      exact nd2.1 (by rw [hyid, ← e]; exact List.mem_map_of_mem hz)
    have lenq4 : Lq'.length + 1 = ks.length := by rw [← lenq, p4.length_eq]; rfl
    simp (maxSteps := 1000000) (disch := first | decide | omega | (simp only [go_sem]; first | done | omega)) only [go_sem, Int.reduceToNat, Nat.reduceMul, Nat.reduceAdd, Nat.reduceSub, ↓EU_region, ↓EU_draw, g1, g2, g8]
    generalize h4.push (.cells [.int .i64 y.key, .int .i64 y.id] 0) = h5 at *
    repeat refine WPo_ob ?_
    refine (put_new rq5 key (w : Int) (by omega) nid (by omega)).mono ?_
    rintro ⟨v6, h6⟩ ⟨rfl, lq6, Lq6, sq6, rq6, m6, w6, p6, _⟩
    simp only at rq6 m6
    have rp6 := rp5.modO m6 (fun j e1 e2 => dj4 j e2 e1)
    have lenp3 : Lp'.length = ks.length := by rw [p3.length_eq, List.length_set, lenp]
    have lenq6 : Lq6.length = ks.length := by rw [p6.length_eq, ← lenq4]; rfl
    have hxy : x = y := by
      obtain ⟨m, hm⟩ := List.getElem?_of_mem (pq.mem_iff.2 (pp.mem_iff.1 (List.mem_of_getElem? hx)))
      have := rq.uniq hm hy (hxid.trans hyid.symm)
      subst this
      rw [hm] at hy
      exact Option.some.inj hy
    subst hxy
    obtain ⟨r, hr1, hr2⟩ := set_perm (y := ⟨key, (w : Int)⟩) hx
    have hrq : r.Perm Lq' := (List.perm_cons x).1 (hr1.symm.trans (pp.trans (pq.symm.trans p4)))
    have hS : srtQ Lp' = srtQ Lq6 := srtQ_eq (p3.trans (hr2.trans ((hrq.cons _).trans p6.symm)))
    simp (maxSteps := 1000000) (disch := first | decide | omega | (simp only [go_sem]; first | done | omega)) only [go_sem, Int.reduceToNat, Nat.reduceMul, Nat.reduceAdd, Nat.reduceSub, ↓EU_region, ↓EU_draw, g7]
    repeat refine WPo_ob ?_
    refine (qlist_ev rp6 (by omega)).mono ?_
    rintro ⟨v7, h7⟩ ⟨o7, _, x7⟩
    simp only at o7 x7
    have rq7 := rq6.ext x7
    simp (maxSteps := 1000000) (disch := first | decide | omega | (simp only [go_sem]; first | done | omega)) only [go_sem, Int.reduceToNat, Nat.reduceMul, Nat.reduceAdd, Nat.reduceSub, ↓EU_region, ↓EU_draw, g8]
    repeat refine WPo_ob ?_
    refine (qlist_ev rq7 (by omega)).mono ?_
    rintro ⟨v8, h8⟩ ⟨o8, _, x8⟩
    simp only at o8 x8
    have o7 := o7.ext x8
    rw [← hS] at o8
    have hml : (srtQ Lp').length = ks.length := by rw [srtQ_len, lenp3]
    generalize srtQ Lp' = M at *
    obtain ⟨a7, c7, rfl⟩ := o7.val
    obtain ⟨a8, c8, rfl⟩ := o8.val
    have dt : ∀ x : Int, decide (x = x) = true := fun x => decide_eq_true rfl
    simp (maxSteps := 1000000) (disch := first | decide | omega | (simp only [go_sem]; first | done | omega)) only [go_sem, Int.reduceToNat, Nat.reduceMul, Nat.reduceAdd, Nat.reduceSub, ↓EU_region, ↓EU_draw, dec_t, dec_f, dt]
    repeat refine WPo_ob ?_
    refine (LP_rule (fun m st => ∃ (i : Nat) (tm : Fr), st = ⟨tm, h8, []⟩ ∧ m = M.length - i ∧ i ≤ M.length ∧ Fr.get tm 14 = .slice a7 M.length c7 ∧ Fr.get tm 15 = .slice a8 M.length c8 ∧ Fr.get tm 16 = .int .i64 (i : Int))
      (fun q => ∃ tm, q.2 = ⟨tm, h8, []⟩ ∧ q.1 = .exit 2) ?_ M.length _ _ ?_ ?_).mono ?_
    · rintro m _ ⟨i, tm, rfl, hm, hi, g14, g15, g16⟩
      by_cases q : i < M.length
      · have d : decide ((i : Int) < (M.length : Int)) = true := decide_eq_true (by omega)
        obtain ⟨z, hz⟩ : ∃ z, M[i]? = some z := ⟨_, List.getElem?_eq_getElem q⟩
        have hwi : wrapF .i64 ((i : Int) + 1) = ((i + 1 : Nat) : Int) := by rw [wrap64 (by omega)]; rfl
        obtain ⟨B, o, c', e, _, r7, _⟩ := o7.sl.at hz rfl
        cases e
        obtain ⟨B8, o', c', e, _, r8, _⟩ := o8.sl.at hz rfl
        cases e
        unfold qE at r7 r8
        have qn : ∀ p q, evBin Try.prog .neq 31 p q (.agg ⟨[.int .i64 z.key, .int .i64 z.id]⟩) (.agg ⟨[.int .i64 z.key, .int .i64 z.id]⟩) = some (.bool false) := fun p q => by
          rw [q_neq, (qEq_iff z z).2 rfl]; rfl
        simp (maxSteps := 1000000) (disch := first | decide | omega | (simp only [go_sem]; first | done | omega)) only [go_sem, Int.reduceToNat, Nat.reduceMul, Nat.reduceAdd, Nat.reduceSub, ↓EU_region, ↓EU_draw, g14, g15, g16, d, r7, r8, qn, hwi]
        exact ⟨_, by omega, i + 1, _, rfl, rfl, by omega, by simp (maxSteps := 1000000) (disch := first | decide | omega | (simp only [go_sem]; first | done | omega)) only [go_sem, Int.reduceToNat, Nat.reduceMul, Nat.reduceAdd, Nat.reduceSub, ↓EU_region, ↓EU_draw, g14], by simp (maxSteps := 1000000) (disch := first | decide | omega | (simp only [go_sem]; first | done | omega)) only [go_sem, Int.reduceToNat, Nat.reduceMul, Nat.reduceAdd, Nat.reduceSub, ↓EU_region, ↓EU_draw, g15], by simp (maxSteps := 1000000) (disch := first | decide | omega | (simp only [go_sem]; first | done | omega)) only [go_sem, Int.reduceToNat, Nat.reduceMul, Nat.reduceAdd, Nat.reduceSub, ↓EU_region, ↓EU_draw]⟩
      · have d : decide ((i : Int) < (M.length : Int)) = false := decide_eq_false (by omega)
        simp (maxSteps := 1000000) (disch := first | decide | omega | (simp only [go_sem]; first | done | omega)) only [go_sem, Int.reduceToNat, Nat.reduceMul, Nat.reduceAdd, Nat.reduceSub, ↓EU_region, ↓EU_draw, g14, g16, d]
        exact ⟨_, rfl, trivial⟩
    · exact ⟨0, _, rfl, rfl, by omega, by simp (maxSteps := 1000000) (disch := first | decide | omega | (simp only [go_sem]; first | done | omega)) only [go_sem, Int.reduceToNat, Nat.reduceMul, Nat.reduceAdd, Nat.reduceSub, ↓EU_region, ↓EU_draw], by simp (maxSteps := 1000000) (disch := first | decide | omega | (simp only [go_sem]; first | done | omega)) only [go_sem, Int.reduceToNat, Nat.reduceMul, Nat.reduceAdd, Nat.reduceSub, ↓EU_region, ↓EU_draw], by simp (maxSteps := 1000000) (disch := first | decide | omega | (simp only [go_sem]; first | done | omega)) only [go_sem, Int.reduceToNat, Nat.reduceMul, Nat.reduceAdd, Nat.reduceSub, ↓EU_region, ↓EU_draw]; rfl⟩
    · omega
    · rintro ⟨_, _⟩ ⟨tm, rfl, rfl⟩
      simp (maxSteps := 1000000) (disch := first | decide | omega | (simp only [go_sem]; first | done | omega)) only [go_sem, Int.reduceToNat, Nat.reduceMul, Nat.reduceAdd, Nat.reduceSub, ↓EU_region, ↓EU_draw]
end Go.Proofs.Ytchclddjifhcaaa.EV
