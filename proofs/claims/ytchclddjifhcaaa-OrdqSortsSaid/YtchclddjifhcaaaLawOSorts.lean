/- OrdqSorts, plainly. No condition. -/
import Derived.Test.YtchclddjifhcaaaOqI
namespace Go.Proofs.Ytchclddjifhcaaa.EV
open Go Go.Proofs
set_option linter.unusedVariables false
set_option linter.unusedSimpArgs false
set_option maxRecDepth 100000
set_option pp.deepTerms false
set_option pp.deepTerms.threshold 20
/-- the first of a heap is no more than any -/
theorem HP.first {l : List QI} (h : HP l) {x : QI} (hx : l[0]? = some x) : ∀ (j : Nat) (y : QI), l[j]? = some y → ¬ ltQ y x := by
  intro j
  induction j using Nat.strongRecOn with
  | ind j ih =>
    intro y hy
    by_cases q : j = 0
    · subst q
      rw [hx] at hy
      cases hy
      exact ltQ_irrefl _
    · obtain ⟨p, hp⟩ : ∃ p, l[(j - 1) / 2]? = some p := by
        have := (List.getElem?_eq_some_iff.1 hy).1
        exact ⟨_, List.getElem?_eq_getElem (by omega)⟩
      exact leQ_trans (ih ((j - 1) / 2) (by omega) p hp) (h j (by omega) y p hy hp)
/-- the first of a heap is the first in order -/
theorem first_sorted {l : List QI} (h : HP l) {x : QI} {r : List QI} (e : l = x :: r) {M : List QI} (hp : M.Perm l) (hs : M.Pairwise fun a b => ¬ ltQ b a) : M[0]? = some x := by
  have hx : l[0]? = some x := by rw [e]; rfl
  cases M with
  | nil => rw [e] at hp; have := hp.length_eq; simp at this
  | cons m M =>
    have h1 : ¬ ltQ m x := by
      obtain ⟨j, hj⟩ := List.getElem?_of_mem (hp.mem_iff.1 (List.mem_cons_self ..))
      exact h.first hx j m hj
    have h2 : ¬ ltQ x m := by
      have : x ∈ m :: M := hp.mem_iff.2 (by rw [e]; exact List.mem_cons_self ..)
      rcases List.mem_cons.1 this with rfl | q
      · exact ltQ_irrefl _
      · exact (List.pairwise_cons.1 hs).1 x q
    show some m = some x
    congr 1
    cases m; cases x
    unfold ltQ at h1 h2
    simp only [QI.mk.injEq]
    simp only at h1 h2
    omega
set_option maxHeartbeats 4000000 in
theorem law_OrdqSorts (h : Heap) (s : Value) (ks : List Int) (hs : SL (intE .i64) 1 h s ks) (wl : ∀ z ∈ ks, (Lit.int .i64 z).wf = true) :
    WPo (EF Try.prog O0 3 [s] h) fun q => q.1 = .bool true := by
  rw [EF_body (O := O0) (by kernel_rfl) Try.func3 rfl (rs := [.tmp 2]) rfl (bad := []) (by kernel_rfl) _ _ (m := 146) rfl]
  obtain ⟨a, c, rfl⟩ := hs.val
  by_cases c0 : ks.length > 200
  · have d0 : decide ((ks.length : Int) > 200) = true := decide_eq_true (by omega)
    simp (maxSteps := 1000000) (disch := first | decide | omega | (simp only [go_sem]; first | done | omega)) only [go_sem, Int.reduceToNat, Nat.reduceMul, Nat.reduceAdd, Nat.reduceSub, ↓EU_region, ↓EU_draw, awake_ev, d0]
  have d0 : decide ((ks.length : Int) > 200) = false := decide_eq_false (by omega)
  simp (maxSteps := 1000000) (disch := first | decide | omega | (simp only [go_sem]; first | done | omega)) only [go_sem, Int.reduceToNat, Nat.reduceMul, Nat.reduceAdd, Nat.reduceSub, ↓EU_region, ↓EU_draw, awake_ev, d0]
  repeat refine WPo_ob ?_
  refine (new_ev 200 h).mono ?_
  rintro ⟨v1, h1⟩ ⟨b, mb, rfl, q1, x1, nb, nmb⟩
  simp only at q1 x1
  have e200 : clampM 200 = 200 := by decide
  rw [e200] at q1
  simp (maxSteps := 1000000) (disch := first | decide | omega | (simp only [go_sem]; first | done | omega)) only [go_sem, Int.reduceToNat, Nat.reduceMul, Nat.reduceAdd, Nat.reduceSub, ↓EU_region, ↓EU_draw]
  repeat refine WPo_ob ?_
  refine (LP_rule (fun m st => ∃ (i : Nat) (tm : Fr) (h' : Heap) (lv : Value) (sp : Int) (L : List QI), st = ⟨tm, h', []⟩ ∧ m = ks.length - i ∧ i ≤ ks.length ∧ Fr.get tm 0 = .slice a ks.length c ∧ Fr.get tm 3 = ptr b 0 ∧ Fr.get tm 4 = .int .i64 (i : Int) ∧ QR h' b lv mb 200 sp L ∧ (∀ j, QS b lv mb j → h.next ≤ j) ∧ L.Perm (itm (ks.take i)) ∧ HP L ∧ Ext h h')
    (fun q => ∃ (tm : Fr) (h' : Heap) (lv : Value) (sp : Int) (L : List QI), q.2 = ⟨tm, h', []⟩ ∧ q.1 = .exit 0 ∧ Fr.get tm 0 = .slice a ks.length c ∧ Fr.get tm 3 = ptr b 0 ∧ QR h' b lv mb 200 sp L ∧ (∀ j, QS b lv mb j → h.next ≤ j) ∧ L.Perm (itm ks) ∧ HP L ∧ Ext h h') ?_ ks.length _ _ ?_ ?_).mono ?_
  · rintro m _ ⟨i, tm, h', lv, sp, L, rfl, hm, hi, g0, g3, g4, rp, np', pp, hp, xx⟩
    by_cases q : i < ks.length
    · have d : decide ((i : Int) < (ks.length : Int)) = true := decide_eq_true (by omega)
      obtain ⟨k, hk⟩ : ∃ k, ks[i]? = some k := ⟨_, List.getElem?_eq_getElem q⟩
      have hwi : wrapF .i64 ((i : Int) + 1) = ((i + 1 : Nat) : Int) := by rw [wrap64 (by omega)]; rfl
      obtain ⟨B, o, c', e, _, _, t0⟩ := (hs.ext xx).at hk rfl
      cases e
      have t0 := t0 0 _ rfl
      rw [add_z] at t0
      have i1 : ∀ x ∈ L, x.id ≠ (i : Int) := fun x hx e => by
        obtain ⟨j, hj, hj2⟩ := itm_mem (pp.mem_iff.1 hx)
        have := (List.getElem?_eq_some_iff.1 hj2).1
        rw [List.length_take] at this
        omega
      have l1 : L.length = i := by rw [pp.length_eq, itm_len, List.length_take]; omega
      have hnx := itm_take hk
      simp (maxSteps := 1000000) (disch := first | decide | omega | (simp only [go_sem]; first | done | omega)) only [go_sem, Int.reduceToNat, Nat.reduceMul, Nat.reduceAdd, Nat.reduceSub, ↓EU_region, ↓EU_draw, g0, g3, g4, d, t0]
      repeat refine WPo_ob ?_
      refine (put_new rp k (i : Int) (by omega) i1 (by omega)).mono ?_
      rintro ⟨v3, h3⟩ ⟨rfl, lv', L', sp', rp', m3, w3, p3, hp3⟩
      simp only at rp' m3
      have xx3 : Ext h h3 := ⟨Nat.le_trans xx.le m3.le, fun j hj => (m3.old j (Nat.lt_of_lt_of_le hj xx.le) (fun e => by have := np' j e; omega)).trans (xx.old j hj)⟩
      have hle := xx.le
      simp (maxSteps := 1000000) (disch := first | decide | omega | (simp only [go_sem]; first | done | omega)) only [go_sem, Int.reduceToNat, Nat.reduceMul, Nat.reduceAdd, Nat.reduceSub, ↓EU_region, ↓EU_draw, dec_t, dec_f, g4, hwi]
      refine ⟨ks.length - (i + 1), by omega, i + 1, _, h3, lv', sp', L', rfl, rfl, by omega, by simp (maxSteps := 1000000) (disch := first | decide | omega | (simp only [go_sem]; first | done | omega)) only [go_sem, Int.reduceToNat, Nat.reduceMul, Nat.reduceAdd, Nat.reduceSub, ↓EU_region, ↓EU_draw, g0], by simp (maxSteps := 1000000) (disch := first | decide | omega | (simp only [go_sem]; first | done | omega)) only [go_sem, Int.reduceToNat, Nat.reduceMul, Nat.reduceAdd, Nat.reduceSub, ↓EU_region, ↓EU_draw, g3], by simp (maxSteps := 1000000) (disch := first | decide | omega | (simp only [go_sem]; first | done | omega)) only [go_sem, Int.reduceToNat, Nat.reduceMul, Nat.reduceAdd, Nat.reduceSub, ↓EU_region, ↓EU_draw], rp', fun j e => ?_, ?_, hp3 hp, xx3⟩
      · rcases w3 j e with k | k
        · exact np' j k
        · omega
      · rw [hnx]; exact p3.trans ((pp.cons _).trans (List.perm_append_singleton _ _).symm)
    · have d : decide ((i : Int) < (ks.length : Int)) = false := decide_eq_false (by omega)
      have : i = ks.length := by omega
      subst this
      rw [List.take_length] at pp
      simp (maxSteps := 1000000) (disch := first | decide | omega | (simp only [go_sem]; first | done | omega)) only [go_sem, Int.reduceToNat, Nat.reduceMul, Nat.reduceAdd, Nat.reduceSub, ↓EU_region, ↓EU_draw, g0, g4, d]
      exact ⟨_, h', lv, sp, L, rfl, trivial, by simp (maxSteps := 1000000) (disch := first | decide | omega | (simp only [go_sem]; first | done | omega)) only [go_sem, Int.reduceToNat, Nat.reduceMul, Nat.reduceAdd, Nat.reduceSub, ↓EU_region, ↓EU_draw, g0], by simp (maxSteps := 1000000) (disch := first | decide | omega | (simp only [go_sem]; first | done | omega)) only [go_sem, Int.reduceToNat, Nat.reduceMul, Nat.reduceAdd, Nat.reduceSub, ↓EU_region, ↓EU_draw, g3], rp, np', pp, hp, xx⟩
  · refine ⟨0, _, h1, _, _, [], rfl, rfl, by omega, by simp (maxSteps := 1000000) (disch := first | decide | omega | (simp only [go_sem]; first | done | omega)) only [go_sem, Int.reduceToNat, Nat.reduceMul, Nat.reduceAdd, Nat.reduceSub, ↓EU_region, ↓EU_draw], by simp (maxSteps := 1000000) (disch := first | decide | omega | (simp only [go_sem]; first | done | omega)) only [go_sem, Int.reduceToNat, Nat.reduceMul, Nat.reduceAdd, Nat.reduceSub, ↓EU_region, ↓EU_draw], by simp (maxSteps := 1000000) (disch := first | decide | omega | (simp only [go_sem]; first | done | omega)) only [go_sem, Int.reduceToNat, Nat.reduceMul, Nat.reduceAdd, Nat.reduceSub, ↓EU_region, ↓EU_draw]; rfl, q1, ?_, List.Perm.refl _, HP.nil, x1⟩
    rintro j (e | e | e)
    · omega
    · omega
    · exact e.elim
  · omega
  · rintro ⟨_, _⟩ ⟨tm, h2, lv, sp, L, rfl, rfl, g0, g3, rp, np', pp, hp, xx⟩
    have lenL : L.length = ks.length := by rw [pp.length_eq, itm_len]
    simp (maxSteps := 1000000) (disch := first | decide | omega | (simp only [go_sem]; first | done | omega)) only [go_sem, Int.reduceToNat, Nat.reduceMul, Nat.reduceAdd, Nat.reduceSub, ↓EU_region, ↓EU_draw, g0, g3]
    repeat refine WPo_ob ?_
    refine (qlist_ev rp (by omega)).mono ?_
    rintro ⟨v3, h3⟩ ⟨o3, f3, x3⟩
    simp only at o3 f3 x3
    have rp3 := rp.ext x3
    have hMp := srtQ_perm L
    have hMs := srtQ_sorted L
    have hMl : (srtQ L).length = ks.length := by rw [srtQ_len, lenL]
    have hMnd : ((srtQ L).map (·.id)).Nodup := (hMp.map (·.id)).nodup_iff.2 rp.nodup
    have hMi : ∀ x ∈ srtQ L, ∃ i : Nat, x.id = (i : Int) ∧ ks[i]? = some x.key := fun x hx => itm_mem ((hMp.trans pp).mem_iff.1 hx)
    generalize srtQ L = M at *
    obtain ⟨aM, cM, rfl⟩ := o3.val
    have dn : decide ((M.length : Int) = (ks.length : Int)) = true := decide_eq_true (by omega)
    have fd : ∀ j, QS b lv mb j → ¬ blkOf (.slice aM M.length cM) j := fun j e1 e2 => by
      have := f3 j e2
      have := rp.blk e1
      omega
    have xx3 : Ext h h3 := xx.trans x3
    simp (maxSteps := 1000000) (disch := first | decide | omega | (simp only [go_sem]; first | done | omega)) only [go_sem, Int.reduceToNat, Nat.reduceMul, Nat.reduceAdd, Nat.reduceSub, ↓EU_region, ↓EU_draw, g0, dn]
    repeat refine WPo_ob ?_
    refine (LP_rule (fun m st => ∃ (i : Nat) (tm : Fr) (h' : Heap) (lv' : Value) (sp : Int) (L : List QI), st = ⟨tm, h', []⟩ ∧ m = ks.length - i ∧ i ≤ ks.length ∧ Fr.get tm 0 = .slice a ks.length c ∧ Fr.get tm 3 = ptr b 0 ∧ Fr.get tm 5 = .slice aM M.length cM ∧ Fr.get tm 6 = .int .i64 (i : Int) ∧ QR h' b lv' mb 200 sp L ∧ (∀ j, QS b lv' mb j → QS b lv mb j) ∧ L.Perm (M.drop i) ∧ HP L ∧ OW qE 2 h' (.slice aM M.length cM) M ∧ Ext h h')
      (fun q => ∃ (tm : Fr) (h' : Heap) (lv' : Value) (sp : Int) (L : List QI), q.2 = ⟨tm, h', []⟩ ∧ q.1 = .exit 2 ∧ Fr.get tm 3 = ptr b 0 ∧ QR h' b lv' mb 200 sp L ∧ L = []) ?_ ks.length _ _ ?_ ?_).mono ?_
    · rintro m _ ⟨i, tm, h', lv', sp, L, rfl, hm, hi, k0, k3, k5, k6, rq, wq, pq, hq, oM, xx⟩
      by_cases q : i < ks.length
      · have d : decide ((i : Int) < (ks.length : Int)) = true := decide_eq_true (by omega)
        have hwi : wrapF .i64 ((i : Int) + 1) = ((i + 1 : Nat) : Int) := by rw [wrap64 (by omega)]; rfl
        have lL : L.length = ks.length - i := by rw [pq.length_eq, List.length_drop, hMl]
        obtain ⟨x, r, hL⟩ : ∃ x r, L = x :: r := by
          cases L with
          | nil => simp at lL; omega
          | cons x r => exact ⟨x, r, rfl⟩
        have hMd : (M.drop i)[0]? = some x := first_sorted hq hL pq.symm (hMs.sublist (List.drop_sublist _ _))
        have hMx : M[i]? = some x := by rw [List.getElem?_drop, Nat.add_zero] at hMd; exact hMd
        have hMr : M.drop i = x :: M.drop (i + 1) := by
          obtain ⟨h1, h2⟩ := List.getElem?_eq_some_iff.1 hMx
          rw [List.drop_eq_getElem_cons h1, h2]
        obtain ⟨j, hj, hjk⟩ := hMi x (List.mem_of_getElem? hMx)
        have hjl := (List.getElem?_eq_some_iff.1 hjk).1
        have hmin : Pu (EF Try.prog O0 12 [ptr b 0] h') h' (.tuple ⟨[.agg ⟨[.int .i64 x.key, .int .i64 x.id]⟩, .bool true]⟩) := by
          have := qmin_ev rq
          subst hL
          exact this
        simp (maxSteps := 1000000) (disch := first | decide | omega | (simp only [go_sem]; first | done | omega)) only [go_sem, Int.reduceToNat, Nat.reduceMul, Nat.reduceAdd, Nat.reduceSub, ↓EU_region, ↓EU_draw, k0, k3, k6, d]
        repeat refine WPo_ob ?_
        refine hmin.bind fun h4 x4 => ?_
        have rq4 := rq.ext x4
        have n4 := x4.le
        have g7 : (h4.push (.cells [.int .i64 x.key, .int .i64 x.id] 0)).get h4.next = .cells [.int .i64 x.key, .int .i64 x.id] 0 := get_push_new _ _
        have x5 : Ext h' (h4.push (.cells [.int .i64 x.key, .int .i64 x.id] 0)) := x4.push _
        have n5 : (h4.push (.cells [.int .i64 x.key, .int .i64 x.id] 0)).next = h4.next + 1 := next_push _ _
        simp (maxSteps := 1000000) (disch := first | decide | omega | (simp only [go_sem]; first | done | omega)) only [go_sem, Int.reduceToNat, Nat.reduceMul, Nat.reduceAdd, Nat.reduceSub, ↓EU_region, ↓EU_draw, k3]
        generalize h4.push (.cells [.int .i64 x.key, .int .i64 x.id] 0) = h5 at *
        have rq5 := rq.ext x5
        try (simp (maxSteps := 1000000) (disch := first | decide | omega | (simp only [go_sem]; first | done | omega)) only [go_sem, Int.reduceToNat, Nat.reduceMul, Nat.reduceAdd, Nat.reduceSub, ↓EU_region, ↓EU_draw, k3, g7])
        repeat refine WPo_ob ?_
        refine (qdrop_ev rq5 x.id (by omega)).mono ?_
        rintro ⟨v6, h6⟩ (⟨_, _, hn⟩ | ⟨n2, y, hy, hyid, e6, lv6, L6, sp6, _, rq6, m6, w6, p6, hp6, _, _⟩)
        · exact absurd rfl (hn 0 x (by rw [hL]; rfl))
        simp only at e6 rq6 m6
        subst e6
        have hxy : y = x := by
          have := rq5.uniq (n := 0) (x := x) (by rw [hL]; rfl) hy hyid.symm
          subst this
          rw [hL] at hy
          exact (Option.some.inj hy).symm
        subst hxy
        unfold qE
        have nS : ∀ {j}, h'.next ≤ j → ¬ QS b lv' mb j := fun hj e => by have := rq.blk e; omega
        have g7' : h6.get h4.next = .cells [.int .i64 y.key, .int .i64 y.id] 0 := by rw [m6.old _ (by omega) (nS n4)]; exact g7
        have n6 := m6.le
        have g7p : (h6.push (.cells [.int .i64 y.key, .int .i64 y.id] 0)).get h4.next = .cells [.int .i64 y.key, .int .i64 y.id] 0 := by rw [get_push_old _ (by omega)]; exact g7'
        have g9p : (h6.push (.cells [.int .i64 y.key, .int .i64 y.id] 0)).get h6.next = .cells [.int .i64 y.key, .int .i64 y.id] 0 := get_push_new _ _
        have x7 : Ext h6 (h6.push (.cells [.int .i64 y.key, .int .i64 y.id] 0)) := (Ext.refl h6).push _
        have oM7 : OW qE 2 (h6.push (.cells [.int .i64 y.key, .int .i64 y.id] 0)) (.slice aM M.length cM) M := ((oM.ext x5).mod m6 (fun j e1 e2 => fd j (wq j e2) e1)).ext x7
        have xx7 : Ext h (h6.push (.cells [.int .i64 y.key, .int .i64 y.id] 0)) := by
          have xx5 : Ext h h5 := xx.trans x5
          have xx6 : Ext h h6 := ⟨Nat.le_trans xx5.le m6.le, fun j hj => (m6.old j (Nat.lt_of_lt_of_le hj xx5.le) (fun e => by have := np' j (wq j e); omega)).trans (xx5.old j hj)⟩
          exact xx6.push _
        have rq7 := rq6.ext x7
        simp (maxSteps := 1000000) (disch := first | decide | omega | (simp only [go_sem]; first | done | omega)) only [go_sem, Int.reduceToNat, Nat.reduceMul, Nat.reduceAdd, Nat.reduceSub, ↓EU_region, ↓EU_draw, k3]
        generalize h6.push (.cells [.int .i64 y.key, .int .i64 y.id] 0) = h7 at *
        obtain ⟨B, o, c', e, _, r1, r2⟩ := oM7.sl.at hMx rfl
        cases e
        unfold qE at r1
        have r20 := r2 0 _ rfl
        have r21 := r2 1 _ rfl
        rw [Nat.add_zero] at r20
        obtain ⟨B', o', c', e, _, _, t0⟩ := (hs.ext xx7).at hjk rfl
        cases e
        have t0 := t0 0 _ rfl
        rw [add_z] at t0
        have d3 : decide ((i : Int) < (M.length : Int)) = true := decide_eq_true (by omega)
        have d4 : decide (y.id < 0) = false := decide_eq_false (by omega)
        have d5 : decide (y.id ≥ (ks.length : Int)) = false := decide_eq_false (by omega)
        have d6 : decide ((j : Int) < (ks.length : Int)) = true := decide_eq_true (by omega)
        have qn : ∀ p q, evBin Try.prog .neq 31 p q (.agg ⟨[.int .i64 y.key, .int .i64 y.id]⟩) (.agg ⟨[.int .i64 y.key, .int .i64 y.id]⟩) = some (.bool false) := fun p q => by
          rw [q_neq, (qEq_iff y y).2 rfl]; rfl
        have dt : decide (y.key = y.key) = true := decide_eq_true rfl
        have pn : L6.Perm (M.drop (i + 1)) := (List.perm_cons y).1 (p6.symm.trans (pq.trans (by rw [hMr])))
        rw [hj] at g7p g9p r1 r21 qn d4 d5
        by_cases hi0 : i = 0
        · have d7 : decide ((i : Int) > 0) = false := decide_eq_false (by omega)
          simp (maxSteps := 1000000) (disch := first | decide | omega | (simp only [go_sem]; first | done | omega)) only [go_sem, Int.reduceToNat, Nat.reduceMul, Nat.reduceAdd, Nat.reduceSub, ↓EU_region, ↓EU_draw, k0, k3, k5, k6, g7p, g9p, qn, r1, r20, r21, t0, hj, d3, d4, d5, d6, d7, dt, List.append_eq, List.cons_append, List.nil_append, hwi]
          exact ⟨ks.length - (i + 1), by omega, i + 1, _, h7, lv6, sp6, L6, rfl, rfl, by omega, by simp (maxSteps := 1000000) (disch := first | decide | omega | (simp only [go_sem]; first | done | omega)) only [go_sem, Int.reduceToNat, Nat.reduceMul, Nat.reduceAdd, Nat.reduceSub, ↓EU_region, ↓EU_draw, k0], by simp (maxSteps := 1000000) (disch := first | decide | omega | (simp only [go_sem]; first | done | omega)) only [go_sem, Int.reduceToNat, Nat.reduceMul, Nat.reduceAdd, Nat.reduceSub, ↓EU_region, ↓EU_draw, k3], by simp (maxSteps := 1000000) (disch := first | decide | omega | (simp only [go_sem]; first | done | omega)) only [go_sem, Int.reduceToNat, Nat.reduceMul, Nat.reduceAdd, Nat.reduceSub, ↓EU_region, ↓EU_draw, k5], by simp (maxSteps := 1000000) (disch := first | decide | omega | (simp only [go_sem]; first | done | omega)) only [go_sem, Int.reduceToNat, Nat.reduceMul, Nat.reduceAdd, Nat.reduceSub, ↓EU_region, ↓EU_draw], rq7, fun j e => wq j (by
            rcases e with e | e | e
            · exact .inl e
            · exact .inr (.inl e)
            · exact .inr (.inr (w6 j e))), pn, hp6 hq, oM7, xx7⟩
        · have d7 : decide ((i : Int) > 0) = true := decide_eq_true (by omega)
          obtain ⟨p, hpx⟩ : ∃ p, M[i - 1]? = some p := ⟨_, List.getElem?_eq_getElem (by omega)⟩
          obtain ⟨B', o', c', e, _, _, r3⟩ := oM7.sl.at hpx rfl
          cases e
          have r30 := r3 0 _ rfl
          have r31 := r3 1 _ rfl
          rw [Nat.add_zero] at r30
          have hwm : wrapF .i64 ((i : Int) - 1) = ((i - 1 : Nat) : Int) := by rw [wrap64 (by omega)]; omega
          have d8 : decide (((i - 1 : Nat) : Int) < (M.length : Int)) = true := decide_eq_true (by omega)
          have hlt : ¬ ltQ y p := by
            have h1 := (List.getElem?_eq_some_iff.1 hMx)
            have h2 := (List.getElem?_eq_some_iff.1 hpx)
            have := List.pairwise_iff_getElem.1 hMs (i - 1) i h2.1 h1.1 (by omega)
            rw [h1.2, h2.2] at this
            exact this
          have hne : y.id ≠ p.id := fun e => by
            have h1 := (List.getElem?_eq_some_iff.1 hMx)
            have h2 := (List.getElem?_eq_some_iff.1 hpx)
            have := List.pairwise_iff_getElem.1 hMnd (i - 1) i (by rw [List.length_map]; exact h2.1) (by rw [List.length_map]; exact h1.1) (by omega)
            rw [List.getElem_map, List.getElem_map, h1.2, h2.2] at this
            exact this e.symm
          have d9 : decide (y.key < p.key) = false := decide_eq_false (by unfold ltQ at hlt; omega)
          rw [hj] at hne
          have d11 : y.key = p.key → decide ((j : Int) ≤ p.id) = false := fun e => decide_eq_false (by unfold ltQ at hlt; omega)
          by_cases hk : y.key = p.key
          · have d10 : decide (y.key = p.key) = true := decide_eq_true hk
            have d11 := d11 hk
            simp (maxSteps := 1000000) (disch := first | decide | omega | (simp only [go_sem]; first | done | omega)) only [go_sem, Int.reduceToNat, Nat.reduceMul, Nat.reduceAdd, Nat.reduceSub, ↓EU_region, ↓EU_draw, k0, k3, k5, k6, g7p, g9p, qn, r1, r20, r21, r30, r31, t0, hj, d3, d4, d5, d6, d7, d8, d9, d10, d11, dt, hwm, List.append_eq, List.cons_append, List.nil_append, hwi]
            exact ⟨ks.length - (i + 1), by omega, i + 1, _, h7, lv6, sp6, L6, rfl, rfl, by omega, by simp (maxSteps := 1000000) (disch := first | decide | omega | (simp only [go_sem]; first | done | omega)) only [go_sem, Int.reduceToNat, Nat.reduceMul, Nat.reduceAdd, Nat.reduceSub, ↓EU_region, ↓EU_draw, k0], by simp (maxSteps := 1000000) (disch := first | decide | omega | (simp only [go_sem]; first | done | omega)) only [go_sem, Int.reduceToNat, Nat.reduceMul, Nat.reduceAdd, Nat.reduceSub, ↓EU_region, ↓EU_draw, k3], by simp (maxSteps := 1000000) (disch := first | decide | omega | (simp only [go_sem]; first | done | omega)) only [go_sem, Int.reduceToNat, Nat.reduceMul, Nat.reduceAdd, Nat.reduceSub, ↓EU_region, ↓EU_draw, k5], by simp (maxSteps := 1000000) (disch := first | decide | omega | (simp only [go_sem]; first | done | omega)) only [go_sem, Int.reduceToNat, Nat.reduceMul, Nat.reduceAdd, Nat.reduceSub, ↓EU_region, ↓EU_draw], rq7, fun j e => wq j (by
              rcases e with e | e | e
              · exact .inl e
              · exact .inr (.inl e)
              · exact .inr (.inr (w6 j e))), pn, hp6 hq, oM7, xx7⟩
          · have d10 : decide (y.key = p.key) = false := decide_eq_false hk
            simp (maxSteps := 1000000) (disch := first | decide | omega | (simp only [go_sem]; first | done | omega)) only [go_sem, Int.reduceToNat, Nat.reduceMul, Nat.reduceAdd, Nat.reduceSub, ↓EU_region, ↓EU_draw, k0, k3, k5, k6, g7p, g9p, qn, r1, r20, r21, r30, r31, t0, hj, d3, d4, d5, d6, d7, d8, d9, d10, dt, hwm, List.append_eq, List.cons_append, List.nil_append, hwi]
            exact ⟨ks.length - (i + 1), by omega, i + 1, _, h7, lv6, sp6, L6, rfl, rfl, by omega, by simp (maxSteps := 1000000) (disch := first | decide | omega | (simp only [go_sem]; first | done | omega)) only [go_sem, Int.reduceToNat, Nat.reduceMul, Nat.reduceAdd, Nat.reduceSub, ↓EU_region, ↓EU_draw, k0], by simp (maxSteps := 1000000) (disch := first | decide | omega | (simp only [go_sem]; first | done | omega)) only [go_sem, Int.reduceToNat, Nat.reduceMul, Nat.reduceAdd, Nat.reduceSub, ↓EU_region, ↓EU_draw, k3], by simp (maxSteps := 1000000) (disch := first | decide | omega | (simp only [go_sem]; first | done | omega)) only [go_sem, Int.reduceToNat, Nat.reduceMul, Nat.reduceAdd, Nat.reduceSub, ↓EU_region, ↓EU_draw, k5], by simp (maxSteps := 1000000) (disch := first | decide | omega | (simp only [go_sem]; first | done | omega)) only [go_sem, Int.reduceToNat, Nat.reduceMul, Nat.reduceAdd, Nat.reduceSub, ↓EU_region, ↓EU_draw], rq7, fun j e => wq j (by
              rcases e with e | e | e
              · exact .inl e
              · exact .inr (.inl e)
              · exact .inr (.inr (w6 j e))), pn, hp6 hq, oM7, xx7⟩
      · have d : decide ((i : Int) < (ks.length : Int)) = false := decide_eq_false (by omega)
        have hi0 : i = M.length := by omega
        rw [hi0, List.drop_length] at pq
        simp (maxSteps := 1000000) (disch := first | decide | omega | (simp only [go_sem]; first | done | omega)) only [go_sem, Int.reduceToNat, Nat.reduceMul, Nat.reduceAdd, Nat.reduceSub, ↓EU_region, ↓EU_draw, k0, k6, d]
        exact ⟨_, h', lv', sp, L, rfl, trivial, by simp (maxSteps := 1000000) (disch := first | decide | omega | (simp only [go_sem]; first | done | omega)) only [go_sem, Int.reduceToNat, Nat.reduceMul, Nat.reduceAdd, Nat.reduceSub, ↓EU_region, ↓EU_draw, k3], rq, pq.eq_nil⟩
    · exact ⟨0, _, h3, lv, sp, L, rfl, rfl, by omega, by simp (maxSteps := 1000000) (disch := first | decide | omega | (simp only [go_sem]; first | done | omega)) only [go_sem, Int.reduceToNat, Nat.reduceMul, Nat.reduceAdd, Nat.reduceSub, ↓EU_region, ↓EU_draw, g0], by simp (maxSteps := 1000000) (disch := first | decide | omega | (simp only [go_sem]; first | done | omega)) only [go_sem, Int.reduceToNat, Nat.reduceMul, Nat.reduceAdd, Nat.reduceSub, ↓EU_region, ↓EU_draw, g3], by simp (maxSteps := 1000000) (disch := first | decide | omega | (simp only [go_sem]; first | done | omega)) only [go_sem, Int.reduceToNat, Nat.reduceMul, Nat.reduceAdd, Nat.reduceSub, ↓EU_region, ↓EU_draw], by simp (maxSteps := 1000000) (disch := first | decide | omega | (simp only [go_sem]; first | done | omega)) only [go_sem, Int.reduceToNat, Nat.reduceMul, Nat.reduceAdd, Nat.reduceSub, ↓EU_region, ↓EU_draw]; rfl, rp3, fun j e => e, hMp.symm, hp, o3, xx3⟩
    · omega
    · rintro ⟨_, _⟩ ⟨tm, h', lv', sp, L, rfl, rfl, g3, rq, rfl⟩
      have hl := qlen_ev rq
      simp (maxSteps := 1000000) (disch := first | decide | omega | (simp only [go_sem]; first | done | omega)) only [go_sem, Int.reduceToNat, Nat.reduceMul, Nat.reduceAdd, Nat.reduceSub, ↓EU_region, ↓EU_draw, dec_t, dec_f, g3, hl]
end Go.Proofs.Ytchclddjifhcaaa.EV
