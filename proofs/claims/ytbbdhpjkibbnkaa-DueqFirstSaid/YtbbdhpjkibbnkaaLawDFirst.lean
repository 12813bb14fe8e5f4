/- DueqFirst, plainly. No condition. -/
import Derived.Test.YtbbdhpjkibbnkaaDq5
namespace Go.Proofs.Ytbbdhpjkibbnkaa.EV
open Go Go.Proofs
set_option linter.unusedVariables false
set_option linter.unusedSimpArgs false
set_option maxRecDepth 100000
set_option pp.deepTerms false
set_option pp.deepTerms.threshold 20
set_option maxHeartbeats 4000000 in
theorem law_DueqFirst (h : Heap) (s : Value) (ks : List Int) (hs : SL (intE .i64) 1 h s ks) (wl : ∀ z ∈ ks, (Lit.int .i64 z).wf = true) (s2 : Value) (ds : List Int) (hs2 : SL (intE .i64) 1 h s2 ds) (wl2 : ∀ z ∈ ds, (Lit.int .i64 z).wf = true) (ka : Int) (wa : (Lit.int .i64 ka).wf = true) (kb : Int) (wb : (Lit.int .i64 kb).wf = true) :
    WPo (EF Try.prog O0 3 [s, s2, .int .i64 ka, .int .i64 kb] h) fun q => q.1 = .bool true := by
  rw [EF_body (O := O0) (by kernel_rfl) Try.func3 rfl (rs := [.tmp 8]) rfl (bad := []) (by kernel_rfl) _ _ (m := 136) rfl]
  have dt : ∀ x : Int, decide (x = x) = true := fun x => decide_eq_true rfl
  obtain ⟨a, c, rfl⟩ := hs.val
  obtain ⟨a2, c2, rfl⟩ := hs2.val
  by_cases c0 : ks.length > 60
  · have d0 : decide ((ks.length : Int) > 60) = true := decide_eq_true (by omega)
    simp (maxSteps := 1000000) (disch := first | decide | omega | (simp only [go_sem]; first | done | omega)) only [go_sem, Int.reduceToNat, Nat.reduceMul, Nat.reduceAdd, Nat.reduceSub, ↓EU_region, ↓EU_draw, awake_ev, d0]
  have d0 : decide ((ks.length : Int) > 60) = false := decide_eq_false (by omega)
  by_cases c1 : (ds.length : Int) < ks.length
  · have d1 : decide ((ds.length : Int) < ks.length) = true := decide_eq_true c1
    simp (maxSteps := 1000000) (disch := first | decide | omega | (simp only [go_sem]; first | done | omega)) only [go_sem, Int.reduceToNat, Nat.reduceMul, Nat.reduceAdd, Nat.reduceSub, ↓EU_region, ↓EU_draw, awake_ev, d0, d1]
  have d1 : decide ((ds.length : Int) < ks.length) = false := decide_eq_false c1
  by_cases cab : ka > kb
  · have d2 : decide (ka > kb) = true := decide_eq_true cab
    simp (maxSteps := 1000000) (disch := first | decide | omega | (simp only [go_sem]; first | done | omega)) only [go_sem, Int.reduceToNat, Nat.reduceMul, Nat.reduceAdd, Nat.reduceSub, ↓EU_region, ↓EU_draw, awake_ev, d0, d1, d2]
  have d2 : decide (ka > kb) = false := decide_eq_false cab
  simp (maxSteps := 1000000) (disch := first | decide | omega | (simp only [go_sem]; first | done | omega)) only [go_sem, Int.reduceToNat, Nat.reduceMul, Nat.reduceAdd, Nat.reduceSub, ↓EU_region, ↓EU_draw, awake_ev, d0, d1, d2]
  repeat refine WPo_ob ?_
  refine (dnew_ev 100 h).mono ?_
  rintro ⟨v1, h1⟩ ⟨B, b, dm, mb, rfl, q1, x1, nq⟩
  simp only at q1 x1
  have e100 : clampM 100 = 100 := by decide
  rw [e100] at q1
  simp (maxSteps := 1000000) (disch := first | decide | omega | (simp only [go_sem]; first | done | omega)) only [go_sem, Int.reduceToNat, Nat.reduceMul, Nat.reduceAdd, Nat.reduceSub, ↓EU_region, ↓EU_draw]
  repeat refine WPo_ob ?_
  refine (LP_rule (fun m st => ∃ (i : Nat) (tm : Fr) (h' : Heap) (lv : Value) (st' : Int) (L : List QI) (du : Int → Int), st = ⟨tm, h', []⟩ ∧ m = ks.length - i ∧ i ≤ ks.length ∧ Fr.get tm 0 = .slice a ks.length c ∧ Fr.get tm 1 = .slice a2 ds.length c2 ∧ Fr.get tm 2 = .int .i64 ka ∧ Fr.get tm 3 = .int .i64 kb ∧ Fr.get tm 9 = ptr B 0 ∧ Fr.get tm 10 = .int .i64 (i : Int) ∧ DQ h' B b dm lv mb 100 st' L du ∧ (∀ j, DZ B b dm lv mb j → h.next ≤ j) ∧ L.Perm (itm (ks.take i)) ∧ Ext h h')
    (fun q => ∃ (tm : Fr) (h' : Heap) (lv : Value) (st' : Int) (L : List QI) (du : Int → Int), q.2 = ⟨tm, h', []⟩ ∧ q.1 = .exit 0 ∧ Fr.get tm 0 = .slice a ks.length c ∧ Fr.get tm 2 = .int .i64 ka ∧ Fr.get tm 3 = .int .i64 kb ∧ Fr.get tm 9 = ptr B 0 ∧ DQ h' B b dm lv mb 100 st' L du ∧ L.Perm (itm ks)) ?_ ks.length _ _ ?_ ?_).mono ?_
  · rintro m _ ⟨i, tm, h', lv, st', L, du, rfl, hm, hi, g0, g1, g2, g3, g9, g10, rq, nq', pq, xx⟩
    by_cases q : i < ks.length
    · have d : decide ((i : Int) < (ks.length : Int)) = true := decide_eq_true (by omega)
      obtain ⟨k, hk⟩ : ∃ k, ks[i]? = some k := ⟨_, List.getElem?_eq_getElem q⟩
      obtain ⟨dd, hd⟩ : ∃ k, ds[i]? = some k := ⟨_, List.getElem?_eq_getElem (by omega)⟩
      have hwi : wrapF .i64 ((i : Int) + 1) = ((i + 1 : Nat) : Int) := by rw [wrap64 (by omega)]; rfl
      obtain ⟨B1, o, c', e, _, _, t0⟩ := (hs.ext xx).at hk rfl
      cases e
      obtain ⟨B2, o2, c2', e, _, _, t2⟩ := (hs2.ext xx).at hd rfl
      cases e
      have t0 := t0 0 _ rfl
      have t2 := t2 0 _ rfl
      rw [add_z] at t0 t2
      have i2 : ∀ x ∈ L, x.id ≠ (i : Int) := fun x hx e => by
        obtain ⟨j, hj, hj2⟩ := itm_mem (pq.mem_iff.1 hx)
        have := (List.getElem?_eq_some_iff.1 hj2).1
        rw [List.length_take] at this
        omega
      have l2 : L.length = i := by rw [pq.length_eq, itm_len, List.length_take]; omega
      have hnx := itm_take hk
      simp (maxSteps := 1000000) (disch := first | decide | omega | (simp only [go_sem]; first | done | omega)) only [go_sem, Int.reduceToNat, Nat.reduceMul, Nat.reduceAdd, Nat.reduceSub, ↓EU_region, ↓EU_draw, g0, g1, g9, g10, d, t0, t2]
      repeat refine WPo_ob ?_
      refine (dput_new rq k dd (i : Int) (by omega) i2 (by omega)).mono ?_
      rintro ⟨v3, h3⟩ ⟨rfl, lv', L', st2, rq', m3, w3, p3, _⟩
      simp only at rq' m3
      have hle := xx.le
      have xx3 : Ext h h3 := ⟨Nat.le_trans xx.le m3.le, fun j hj => (m3.old j (Nat.lt_of_lt_of_le hj xx.le) (fun e => by have := nq' j e; omega)).trans (xx.old j hj)⟩
      have hnq : ∀ j, DZ B b dm lv' mb j → h.next ≤ j := fun j e => by
        rcases w3 j e with k | k
        · exact nq' j k
        · omega
      have hpq : L'.Perm (itm (ks.take (i + 1))) := by rw [hnx]; exact p3.trans ((pq.cons _).trans (List.perm_append_singleton _ _).symm)
      simp (maxSteps := 1000000) (disch := first | decide | omega | (simp only [go_sem]; first | done | omega)) only [go_sem, Int.reduceToNat, Nat.reduceMul, Nat.reduceAdd, Nat.reduceSub, ↓EU_region, ↓EU_draw, g10, hwi]
      exact ⟨ks.length - (i + 1), by omega, i + 1, _, h3, lv', st2, L', _, rfl, rfl, by omega, by simp (maxSteps := 1000000) (disch := first | decide | omega | (simp only [go_sem]; first | done | omega)) only [go_sem, Int.reduceToNat, Nat.reduceMul, Nat.reduceAdd, Nat.reduceSub, ↓EU_region, ↓EU_draw, g0], by simp (maxSteps := 1000000) (disch := first | decide | omega | (simp only [go_sem]; first | done | omega)) only [go_sem, Int.reduceToNat, Nat.reduceMul, Nat.reduceAdd, Nat.reduceSub, ↓EU_region, ↓EU_draw, g1], by simp (maxSteps := 1000000) (disch := first | decide | omega | (simp only [go_sem]; first | done | omega)) only [go_sem, Int.reduceToNat, Nat.reduceMul, Nat.reduceAdd, Nat.reduceSub, ↓EU_region, ↓EU_draw, g2], by simp (maxSteps := 1000000) (disch := first | decide | omega | (simp only [go_sem]; first | done | omega)) only [go_sem, Int.reduceToNat, Nat.reduceMul, Nat.reduceAdd, Nat.reduceSub, ↓EU_region, ↓EU_draw, g3], by simp (maxSteps := 1000000) (disch := first | decide | omega | (simp only [go_sem]; first | done | omega)) only [go_sem, Int.reduceToNat, Nat.reduceMul, Nat.reduceAdd, Nat.reduceSub, ↓EU_region, ↓EU_draw, g9], by simp (maxSteps := 1000000) (disch := first | decide | omega | (simp only [go_sem]; first | done | omega)) only [go_sem, Int.reduceToNat, Nat.reduceMul, Nat.reduceAdd, Nat.reduceSub, ↓EU_region, ↓EU_draw], rq', hnq, hpq, xx3⟩
    · have d : decide ((i : Int) < (ks.length : Int)) = false := decide_eq_false (by omega)
      have : i = ks.length := by omega
      subst this
      rw [List.take_length] at pq
      simp (maxSteps := 1000000) (disch := first | decide | omega | (simp only [go_sem]; first | done | omega)) only [go_sem, Int.reduceToNat, Nat.reduceMul, Nat.reduceAdd, Nat.reduceSub, ↓EU_region, ↓EU_draw, g0, g10, d]
      exact ⟨_, h', lv, st', L, du, rfl, trivial, by simp (maxSteps := 1000000) (disch := first | decide | omega | (simp only [go_sem]; first | done | omega)) only [go_sem, Int.reduceToNat, Nat.reduceMul, Nat.reduceAdd, Nat.reduceSub, ↓EU_region, ↓EU_draw, g0], by simp (maxSteps := 1000000) (disch := first | decide | omega | (simp only [go_sem]; first | done | omega)) only [go_sem, Int.reduceToNat, Nat.reduceMul, Nat.reduceAdd, Nat.reduceSub, ↓EU_region, ↓EU_draw, g2], by simp (maxSteps := 1000000) (disch := first | decide | omega | (simp only [go_sem]; first | done | omega)) only [go_sem, Int.reduceToNat, Nat.reduceMul, Nat.reduceAdd, Nat.reduceSub, ↓EU_region, ↓EU_draw, g3], by simp (maxSteps := 1000000) (disch := first | decide | omega | (simp only [go_sem]; first | done | omega)) only [go_sem, Int.reduceToNat, Nat.reduceMul, Nat.reduceAdd, Nat.reduceSub, ↓EU_region, ↓EU_draw, g9], rq, pq⟩
  · exact ⟨0, _, h1, _, _, [], _, rfl, rfl, by omega, by simp (maxSteps := 1000000) (disch := first | decide | omega | (simp only [go_sem]; first | done | omega)) only [go_sem, Int.reduceToNat, Nat.reduceMul, Nat.reduceAdd, Nat.reduceSub, ↓EU_region, ↓EU_draw], by simp (maxSteps := 1000000) (disch := first | decide | omega | (simp only [go_sem]; first | done | omega)) only [go_sem, Int.reduceToNat, Nat.reduceMul, Nat.reduceAdd, Nat.reduceSub, ↓EU_region, ↓EU_draw], by simp (maxSteps := 1000000) (disch := first | decide | omega | (simp only [go_sem]; first | done | omega)) only [go_sem, Int.reduceToNat, Nat.reduceMul, Nat.reduceAdd, Nat.reduceSub, ↓EU_region, ↓EU_draw], by simp (maxSteps := 1000000) (disch := first | decide | omega | (simp only [go_sem]; first | done | omega)) only [go_sem, Int.reduceToNat, Nat.reduceMul, Nat.reduceAdd, Nat.reduceSub, ↓EU_region, ↓EU_draw], by simp (maxSteps := 1000000) (disch := first | decide | omega | (simp only [go_sem]; first | done | omega)) only [go_sem, Int.reduceToNat, Nat.reduceMul, Nat.reduceAdd, Nat.reduceSub, ↓EU_region, ↓EU_draw], by simp (maxSteps := 1000000) (disch := first | decide | omega | (simp only [go_sem]; first | done | omega)) only [go_sem, Int.reduceToNat, Nat.reduceMul, Nat.reduceAdd, Nat.reduceSub, ↓EU_region, ↓EU_draw]; rfl, q1, nq, List.Perm.refl _, x1⟩
  · omega
  rintro ⟨_, _⟩ ⟨tm, h', lv, st', L, du, rfl, rfl, g0, g2, g3, g9, rq, pq⟩
  have lenq : L.length = ks.length := by rw [pq.length_eq, itm_len]
  have hso := wholeL_so du L
  simp (maxSteps := 1000000) (disch := first | decide | omega | (simp only [go_sem]; first | done | omega)) only [go_sem, Int.reduceToNat, Nat.reduceMul, Nat.reduceAdd, Nat.reduceSub, ↓EU_region, ↓EU_draw, g2, g9]
  repeat refine WPo_ob ?_
  refine (dfirst_ev rq ka (by omega)).mono ?_
  rintro ⟨v2, h2⟩ ⟨⟨⟨x, ok⟩, fx, rfl⟩, x2⟩
  simp only at x2
  have fx := fx.sp hso
  have x2 := x2.push (.cells [.int .i64 x.key, .int .i64 x.due, .int .i64 x.id] 0)
  have k2 : (h2.push (.cells [.int .i64 x.key, .int .i64 x.due, .int .i64 x.id] 0)).get h2.next = .cells [.int .i64 x.key, .int .i64 x.due, .int .i64 x.id] 0 := get_push_new _ _
  have n2 : (h2.push (.cells [.int .i64 x.key, .int .i64 x.due, .int .i64 x.id] 0)).next = h2.next + 1 := next_push _ _
  unfold rE
  simp (maxSteps := 1000000) (disch := first | decide | omega | (simp only [go_sem]; first | done | omega)) only [go_sem, Int.reduceToNat, Nat.reduceMul, Nat.reduceAdd, Nat.reduceSub, ↓EU_region, ↓EU_draw, g3, g9]
  generalize h2.push (.cells [.int .i64 x.key, .int .i64 x.due, .int .i64 x.id] 0) = h2b at *
  repeat refine WPo_ob ?_
  refine (dfirst_ev (rq.ext x2) kb (by omega)).mono ?_
  rintro ⟨v4, h4⟩ ⟨⟨⟨y, is⟩, fy, rfl⟩, x4⟩
  simp only at x4
  have fy := fy.sp hso
  have k24o := (x4.old h2.next (by omega)).trans k2
  have hl4 := x4.le
  have x4 := x4.push (.cells [.int .i64 y.key, .int .i64 y.due, .int .i64 y.id] 0)
  have k24 := (x4.old h2.next (by omega)).trans k2
  have k4 : (h4.push (.cells [.int .i64 y.key, .int .i64 y.due, .int .i64 y.id] 0)).get h4.next = .cells [.int .i64 y.key, .int .i64 y.due, .int .i64 y.id] 0 := get_push_new _ _
  have n4 : (h4.push (.cells [.int .i64 y.key, .int .i64 y.due, .int .i64 y.id] 0)).next = h4.next + 1 := next_push _ _
  unfold rE
  simp (maxSteps := 1000000) (disch := first | decide | omega | (simp only [go_sem]; first | done | omega)) only [go_sem, Int.reduceToNat, Nat.reduceMul, Nat.reduceAdd, Nat.reduceSub]
  generalize h4.push (.cells [.int .i64 y.key, .int .i64 y.due, .int .i64 y.id] 0) = h4b at *
  repeat refine WPo_ob ?_
  refine WPo.mono (Q := fun q => ∃ tm, q = (Exit.normal, ⟨tm, h4b, []⟩) ∧ Fr.get tm 82 = .bool false ∧ Fr.get tm 0 = .slice a ks.length c ∧ Fr.get tm 2 = .int .i64 ka ∧ Fr.get tm 9 = ptr B 0 ∧ Fr.get tm 11 = ptr h2.next 0 ∧ Fr.get tm 12 = .bool ok) ?_ ?_
  · cases ok with
    | false =>
      simp (maxSteps := 1000000) (disch := first | decide | omega | (simp only [go_sem]; first | done | omega)) only [go_sem, Int.reduceToNat, Nat.reduceMul, Nat.reduceAdd, Nat.reduceSub, ↓EU_region, ↓EU_draw]
      exact ⟨_, rfl, by simp (maxSteps := 1000000) (disch := first | decide | omega | (simp only [go_sem]; first | done | omega)) only [go_sem, Int.reduceToNat, Nat.reduceMul, Nat.reduceAdd, Nat.reduceSub, ↓EU_region, ↓EU_draw], by simp (maxSteps := 1000000) (disch := first | decide | omega | (simp only [go_sem]; first | done | omega)) only [go_sem, Int.reduceToNat, Nat.reduceMul, Nat.reduceAdd, Nat.reduceSub, ↓EU_region, ↓EU_draw, g0], by simp (maxSteps := 1000000) (disch := first | decide | omega | (simp only [go_sem]; first | done | omega)) only [go_sem, Int.reduceToNat, Nat.reduceMul, Nat.reduceAdd, Nat.reduceSub, ↓EU_region, ↓EU_draw, g2], by simp (maxSteps := 1000000) (disch := first | decide | omega | (simp only [go_sem]; first | done | omega)) only [go_sem, Int.reduceToNat, Nat.reduceMul, Nat.reduceAdd, Nat.reduceSub, ↓EU_region, ↓EU_draw, g9], by simp (maxSteps := 1000000) (disch := first | decide | omega | (simp only [go_sem]; first | done | omega)) only [go_sem, Int.reduceToNat, Nat.reduceMul, Nat.reduceAdd, Nat.reduceSub, ↓EU_region, ↓EU_draw], by simp (maxSteps := 1000000) (disch := first | decide | omega | (simp only [go_sem]; first | done | omega)) only [go_sem, Int.reduceToNat, Nat.reduceMul, Nat.reduceAdd, Nat.reduceSub, ↓EU_region, ↓EU_draw]⟩
    | true =>
      obtain ⟨f1, f2, f3⟩ := fx.yes rfl
      have his : is = true := by
        cases is with
        | true => rfl
        | false =>
          have := (fy.no rfl).2 _ f1
          simp only at this f2
          omega
      subst his
      obtain ⟨e1, e2, e3⟩ := fy.yes rfl
      have e4 := e3 _ f1 (by simp only at f2 ⊢; omega)
      unfold ltD at e4
      simp only at e4 f2
      have dk : decide (ka < x.key) = false := decide_eq_false (by omega)
      have dd : decide (x.due < y.due) = false := decide_eq_false (by omega)
      simp (maxSteps := 1000000) (disch := first | decide | omega | (simp only [go_sem]; first | done | omega)) only [go_sem, Int.reduceToNat, Nat.reduceMul, Nat.reduceAdd, Nat.reduceSub, ↓EU_region, ↓EU_draw, g2, g3, k24, k4, dk, dd]
      exact ⟨_, rfl, by simp (maxSteps := 1000000) (disch := first | decide | omega | (simp only [go_sem]; first | done | omega)) only [go_sem, Int.reduceToNat, Nat.reduceMul, Nat.reduceAdd, Nat.reduceSub, ↓EU_region, ↓EU_draw], by simp (maxSteps := 1000000) (disch := first | decide | omega | (simp only [go_sem]; first | done | omega)) only [go_sem, Int.reduceToNat, Nat.reduceMul, Nat.reduceAdd, Nat.reduceSub, ↓EU_region, ↓EU_draw, g0], by simp (maxSteps := 1000000) (disch := first | decide | omega | (simp only [go_sem]; first | done | omega)) only [go_sem, Int.reduceToNat, Nat.reduceMul, Nat.reduceAdd, Nat.reduceSub, ↓EU_region, ↓EU_draw, g2], by simp (maxSteps := 1000000) (disch := first | decide | omega | (simp only [go_sem]; first | done | omega)) only [go_sem, Int.reduceToNat, Nat.reduceMul, Nat.reduceAdd, Nat.reduceSub, ↓EU_region, ↓EU_draw, g9], by simp (maxSteps := 1000000) (disch := first | decide | omega | (simp only [go_sem]; first | done | omega)) only [go_sem, Int.reduceToNat, Nat.reduceMul, Nat.reduceAdd, Nat.reduceSub, ↓EU_region, ↓EU_draw], by simp (maxSteps := 1000000) (disch := first | decide | omega | (simp only [go_sem]; first | done | omega)) only [go_sem, Int.reduceToNat, Nat.reduceMul, Nat.reduceAdd, Nat.reduceSub, ↓EU_region, ↓EU_draw]⟩
  have q4 := (rq.ext x2).ext x4
  clear g0 g2 g3 g9
  rintro _ ⟨tm, rfl, g82, g0, g2, g9, g11, g12⟩
  simp (maxSteps := 1000000) (disch := first | decide | omega | (simp only [go_sem]; first | done | omega)) only [go_sem, Int.reduceToNat, Nat.reduceMul, Nat.reduceAdd, Nat.reduceSub, ↓EU_region, ↓EU_draw, g82, g9]
  repeat refine WPo_ob ?_
  refine (dlist_ev q4 (by omega)).mono ?_
  rintro ⟨v5, h5⟩ ⟨o5, f5, x5⟩
  simp only at o5 f5 x5
  have k5 := (x5.old h2.next (by omega)).trans k24
  have hwl := wholeL_len du L
  have lenW : (wholeL du L).length = ks.length := by rw [hwl, lenq]
  generalize wholeL du L = W at *
  obtain ⟨a5, c5, rfl⟩ := o5.val
  simp (maxSteps := 1000000) (disch := first | decide | omega | (simp only [go_sem]; first | done | omega)) only [go_sem, Int.reduceToNat, Nat.reduceMul, Nat.reduceAdd, Nat.reduceSub, ↓EU_region, ↓EU_draw]
  repeat refine WPo_ob ?_
  refine (LP_rule (fun m st => ∃ (i : Nat) (tm : Fr) (sb : Bool), st = ⟨tm, h5, []⟩ ∧ m = W.length - i ∧ i ≤ W.length ∧ Fr.get tm 0 = .slice a ks.length c ∧ Fr.get tm 2 = .int .i64 ka ∧ Fr.get tm 11 = ptr h2.next 0 ∧ Fr.get tm 12 = .bool ok ∧ Fr.get tm 15 = .slice a5 W.length c5 ∧ Fr.get tm 16 = .bool sb ∧ Fr.get tm 17 = .int .i64 (i : Int) ∧ (sb = true ↔ ∃ j y, j < i ∧ W[j]? = some y ∧ y.key ≤ ka))
    (fun q => ∃ tm sb, q.2 = ⟨tm, h5, []⟩ ∧ q.1 = .exit 2 ∧ Fr.get tm 0 = .slice a ks.length c ∧ Fr.get tm 12 = .bool ok ∧ Fr.get tm 15 = .slice a5 W.length c5 ∧ Fr.get tm 16 = .bool sb ∧ (sb = true ↔ ∃ j y, j < W.length ∧ W[j]? = some y ∧ y.key ≤ ka)) ?_ W.length _ _ ?_ ?_).mono ?_
  · clear g0 g2 g9 g11 g12 g82
    rintro m _ ⟨i, tm, sb, rfl, hm, hi, g0, g2, g11, g12, g15, g16, g17, hsb⟩
    by_cases q : i < W.length
    · have hmm : W.length - (i + 1) < m := by omega
      have hi1 : i + 1 ≤ W.length := q
      have d : decide ((i : Int) < (W.length : Int)) = true := decide_eq_true (by omega)
      obtain ⟨z, hz⟩ : ∃ z, W[i]? = some z := ⟨_, List.getElem?_eq_getElem q⟩
      have hwi : wrapF .i64 ((i : Int) + 1) = ((i + 1 : Nat) : Int) := by rw [wrap64 (by omega)]; rfl
      obtain ⟨B5, o5', c5', e, _, _, t5⟩ := o5.sl.at hz rfl
      cases e
      have t50 := t5 0 _ rfl
      have t51 := t5 1 _ rfl
      have t52 := t5 2 _ rfl
      rw [add_z] at t50
      by_cases hk : z.key ≤ ka
      · have dk : decide (z.key ≤ ka) = true := decide_eq_true hk
        have hok : ok = true := by
          cases ok with
          | true => rfl
          | false =>
            have := (fx.no rfl).2 z (List.mem_of_getElem? hz)
            omega
        have hnl := (fx.yes hok).2.2 z (List.mem_of_getElem? hz) hk
        unfold ltD at hnl
        simp only at hnl
        have dd : decide (z.due < x.due) = false := decide_eq_false (by omega)
        have hsb' : true = true ↔ ∃ j y, j < i + 1 ∧ W[j]? = some y ∧ y.key ≤ ka := ⟨fun _ => ⟨i, z, by omega, hz, hk⟩, fun _ => rfl⟩
        by_cases hde : z.due = x.due
        · have de : decide (z.due = x.due) = true := decide_eq_true hde
          have di : decide (z.id < x.id) = false := decide_eq_false (by omega)
          simp (maxSteps := 1000000) (disch := first | decide | omega | (simp only [go_sem]; first | done | omega)) only [go_sem, Int.reduceToNat, Nat.reduceMul, Nat.reduceAdd, Nat.reduceSub, ↓EU_region, ↓EU_draw, g2, g11, g15, g16, g17, d, t50, t51, t52, dk, dd, de, di, k5, hwi]
          exact ⟨W.length - (i + 1), hmm, i + 1, _, true, rfl, rfl, hi1, by simp (maxSteps := 1000000) (disch := first | decide | omega | (simp only [go_sem]; first | done | omega)) only [go_sem, Int.reduceToNat, Nat.reduceMul, Nat.reduceAdd, Nat.reduceSub, ↓EU_region, ↓EU_draw, g0], by simp (maxSteps := 1000000) (disch := first | decide | omega | (simp only [go_sem]; first | done | omega)) only [go_sem, Int.reduceToNat, Nat.reduceMul, Nat.reduceAdd, Nat.reduceSub, ↓EU_region, ↓EU_draw, g2], by simp (maxSteps := 1000000) (disch := first | decide | omega | (simp only [go_sem]; first | done | omega)) only [go_sem, Int.reduceToNat, Nat.reduceMul, Nat.reduceAdd, Nat.reduceSub, ↓EU_region, ↓EU_draw, g11], by simp (maxSteps := 1000000) (disch := first | decide | omega | (simp only [go_sem]; first | done | omega)) only [go_sem, Int.reduceToNat, Nat.reduceMul, Nat.reduceAdd, Nat.reduceSub, ↓EU_region, ↓EU_draw, g12], by simp (maxSteps := 1000000) (disch := first | decide | omega | (simp only [go_sem]; first | done | omega)) only [go_sem, Int.reduceToNat, Nat.reduceMul, Nat.reduceAdd, Nat.reduceSub, ↓EU_region, ↓EU_draw, g15], by simp (maxSteps := 1000000) (disch := first | decide | omega | (simp only [go_sem]; first | done | omega)) only [go_sem, Int.reduceToNat, Nat.reduceMul, Nat.reduceAdd, Nat.reduceSub, ↓EU_region, ↓EU_draw], by simp (maxSteps := 1000000) (disch := first | decide | omega | (simp only [go_sem]; first | done | omega)) only [go_sem, Int.reduceToNat, Nat.reduceMul, Nat.reduceAdd, Nat.reduceSub, ↓EU_region, ↓EU_draw], hsb'⟩
        · have de : decide (z.due = x.due) = false := decide_eq_false hde
          simp (maxSteps := 1000000) (disch := first | decide | omega | (simp only [go_sem]; first | done | omega)) only [go_sem, Int.reduceToNat, Nat.reduceMul, Nat.reduceAdd, Nat.reduceSub, ↓EU_region, ↓EU_draw, g2, g11, g15, g16, g17, d, t50, t51, dk, dd, de, k5, hwi]
          exact ⟨W.length - (i + 1), hmm, i + 1, _, true, rfl, rfl, hi1, by simp (maxSteps := 1000000) (disch := first | decide | omega | (simp only [go_sem]; first | done | omega)) only [go_sem, Int.reduceToNat, Nat.reduceMul, Nat.reduceAdd, Nat.reduceSub, ↓EU_region, ↓EU_draw, g0], by simp (maxSteps := 1000000) (disch := first | decide | omega | (simp only [go_sem]; first | done | omega)) only [go_sem, Int.reduceToNat, Nat.reduceMul, Nat.reduceAdd, Nat.reduceSub, ↓EU_region, ↓EU_draw, g2], by simp (maxSteps := 1000000) (disch := first | decide | omega | (simp only [go_sem]; first | done | omega)) only [go_sem, Int.reduceToNat, Nat.reduceMul, Nat.reduceAdd, Nat.reduceSub, ↓EU_region, ↓EU_draw, g11], by simp (maxSteps := 1000000) (disch := first | decide | omega | (simp only [go_sem]; first | done | omega)) only [go_sem, Int.reduceToNat, Nat.reduceMul, Nat.reduceAdd, Nat.reduceSub, ↓EU_region, ↓EU_draw, g12], by simp (maxSteps := 1000000) (disch := first | decide | omega | (simp only [go_sem]; first | done | omega)) only [go_sem, Int.reduceToNat, Nat.reduceMul, Nat.reduceAdd, Nat.reduceSub, ↓EU_region, ↓EU_draw, g15], by simp (maxSteps := 1000000) (disch := first | decide | omega | (simp only [go_sem]; first | done | omega)) only [go_sem, Int.reduceToNat, Nat.reduceMul, Nat.reduceAdd, Nat.reduceSub, ↓EU_region, ↓EU_draw], by simp (maxSteps := 1000000) (disch := first | decide | omega | (simp only [go_sem]; first | done | omega)) only [go_sem, Int.reduceToNat, Nat.reduceMul, Nat.reduceAdd, Nat.reduceSub, ↓EU_region, ↓EU_draw], hsb'⟩
      · have dk : decide (z.key ≤ ka) = false := decide_eq_false hk
        simp (maxSteps := 1000000) (disch := first | decide | omega | (simp only [go_sem]; first | done | omega)) only [go_sem, Int.reduceToNat, Nat.reduceMul, Nat.reduceAdd, Nat.reduceSub, ↓EU_region, ↓EU_draw, g2, g11, g15, g16, g17, d, t50, dk, hwi]
        refine ⟨W.length - (i + 1), hmm, i + 1, _, sb, rfl, rfl, hi1, by simp (maxSteps := 1000000) (disch := first | decide | omega | (simp only [go_sem]; first | done | omega)) only [go_sem, Int.reduceToNat, Nat.reduceMul, Nat.reduceAdd, Nat.reduceSub, ↓EU_region, ↓EU_draw, g0], by simp (maxSteps := 1000000) (disch := first | decide | omega | (simp only [go_sem]; first | done | omega)) only [go_sem, Int.reduceToNat, Nat.reduceMul, Nat.reduceAdd, Nat.reduceSub, ↓EU_region, ↓EU_draw, g2], by simp (maxSteps := 1000000) (disch := first | decide | omega | (simp only [go_sem]; first | done | omega)) only [go_sem, Int.reduceToNat, Nat.reduceMul, Nat.reduceAdd, Nat.reduceSub, ↓EU_region, ↓EU_draw, g11], by simp (maxSteps := 1000000) (disch := first | decide | omega | (simp only [go_sem]; first | done | omega)) only [go_sem, Int.reduceToNat, Nat.reduceMul, Nat.reduceAdd, Nat.reduceSub, ↓EU_region, ↓EU_draw, g12], by simp (maxSteps := 1000000) (disch := first | decide | omega | (simp only [go_sem]; first | done | omega)) only [go_sem, Int.reduceToNat, Nat.reduceMul, Nat.reduceAdd, Nat.reduceSub, ↓EU_region, ↓EU_draw, g15], by simp (maxSteps := 1000000) (disch := first | decide | omega | (simp only [go_sem]; first | done | omega)) only [go_sem, Int.reduceToNat, Nat.reduceMul, Nat.reduceAdd, Nat.reduceSub, ↓EU_region, ↓EU_draw, g16], by simp (maxSteps := 1000000) (disch := first | decide | omega | (simp only [go_sem]; first | done | omega)) only [go_sem, Int.reduceToNat, Nat.reduceMul, Nat.reduceAdd, Nat.reduceSub, ↓EU_region, ↓EU_draw], ?_⟩
        rw [hsb]
        constructor
        · rintro ⟨j, y, hj, hy, hyk⟩
          exact ⟨j, y, by omega, hy, hyk⟩
        · rintro ⟨j, y, hj, hy, hyk⟩
          by_cases e : j = i
          · subst e
            rw [hz] at hy
            cases hy
            exact absurd hyk hk
          · exact ⟨j, y, by omega, hy, hyk⟩
    · have d : decide ((i : Int) < (W.length : Int)) = false := decide_eq_false (by omega)
      obtain rfl : i = W.length := by omega
      simp (maxSteps := 1000000) (disch := first | decide | omega | (simp only [go_sem]; first | done | omega)) only [go_sem, Int.reduceToNat, Nat.reduceMul, Nat.reduceAdd, Nat.reduceSub, ↓EU_region, ↓EU_draw, g15, g17, d]
      exact ⟨_, sb, rfl, trivial, by simp (maxSteps := 1000000) (disch := first | decide | omega | (simp only [go_sem]; first | done | omega)) only [go_sem, Int.reduceToNat, Nat.reduceMul, Nat.reduceAdd, Nat.reduceSub, ↓EU_region, ↓EU_draw, g0], by simp (maxSteps := 1000000) (disch := first | decide | omega | (simp only [go_sem]; first | done | omega)) only [go_sem, Int.reduceToNat, Nat.reduceMul, Nat.reduceAdd, Nat.reduceSub, ↓EU_region, ↓EU_draw, g12], by simp (maxSteps := 1000000) (disch := first | decide | omega | (simp only [go_sem]; first | done | omega)) only [go_sem, Int.reduceToNat, Nat.reduceMul, Nat.reduceAdd, Nat.reduceSub, ↓EU_region, ↓EU_draw, g15], by simp (maxSteps := 1000000) (disch := first | decide | omega | (simp only [go_sem]; first | done | omega)) only [go_sem, Int.reduceToNat, Nat.reduceMul, Nat.reduceAdd, Nat.reduceSub, ↓EU_region, ↓EU_draw, g16], hsb⟩
  · exact ⟨0, _, false, rfl, rfl, by omega, by simp (maxSteps := 1000000) (disch := first | decide | omega | (simp only [go_sem]; first | done | omega)) only [go_sem, Int.reduceToNat, Nat.reduceMul, Nat.reduceAdd, Nat.reduceSub, ↓EU_region, ↓EU_draw, g0], by simp (maxSteps := 1000000) (disch := first | decide | omega | (simp only [go_sem]; first | done | omega)) only [go_sem, Int.reduceToNat, Nat.reduceMul, Nat.reduceAdd, Nat.reduceSub, ↓EU_region, ↓EU_draw, g2], by simp (maxSteps := 1000000) (disch := first | decide | omega | (simp only [go_sem]; first | done | omega)) only [go_sem, Int.reduceToNat, Nat.reduceMul, Nat.reduceAdd, Nat.reduceSub, ↓EU_region, ↓EU_draw, g11], by simp (maxSteps := 1000000) (disch := first | decide | omega | (simp only [go_sem]; first | done | omega)) only [go_sem, Int.reduceToNat, Nat.reduceMul, Nat.reduceAdd, Nat.reduceSub, ↓EU_region, ↓EU_draw, g12], by simp (maxSteps := 1000000) (disch := first | decide | omega | (simp only [go_sem]; first | done | omega)) only [go_sem, Int.reduceToNat, Nat.reduceMul, Nat.reduceAdd, Nat.reduceSub, ↓EU_region, ↓EU_draw], by simp (maxSteps := 1000000) (disch := first | decide | omega | (simp only [go_sem]; first | done | omega)) only [go_sem, Int.reduceToNat, Nat.reduceMul, Nat.reduceAdd, Nat.reduceSub, ↓EU_region, ↓EU_draw], by simp (maxSteps := 1000000) (disch := first | decide | omega | (simp only [go_sem]; first | done | omega)) only [go_sem, Int.reduceToNat, Nat.reduceMul, Nat.reduceAdd, Nat.reduceSub, ↓EU_region, ↓EU_draw]; rfl, ⟨fun e => (by cases e), fun ⟨j, y, hj, _⟩ => by omega⟩⟩
  · omega
  clear g0 g2 g9 g11 g12 g82
  rintro ⟨_, _⟩ ⟨tm, sb, rfl, rfl, g0, g12, g15, g16, hsb⟩
  have hos : ok = sb := by
    cases ok with
    | true =>
      obtain ⟨f1, f2, _⟩ := fx.yes rfl
      obtain ⟨j, hj⟩ := List.getElem?_of_mem f1
      exact (hsb.2 ⟨j, _, (List.getElem?_eq_some_iff.1 hj).1, hj, f2⟩).symm
    | false =>
      cases sb with
      | false => rfl
      | true =>
        obtain ⟨j, y, hj, hy, hyk⟩ := hsb.1 rfl
        have := (fx.no rfl).2 y (List.mem_of_getElem? hy)
        omega
  subst hos
  have bs : ∀ x : Bool, (x == x) = true := fun x => by cases x <;> rfl
  simp (maxSteps := 1000000) (disch := first | decide | omega | (simp only [go_sem]; first | done | omega)) only [go_sem, Int.reduceToNat, Nat.reduceMul, Nat.reduceAdd, Nat.reduceSub, ↓EU_region, ↓EU_draw, g0, g12, g15, g16, bs, lenW, dt]
end Go.Proofs.Ytbbdhpjkibbnkaa.EV
