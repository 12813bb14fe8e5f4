/- WeightParts, plainly. No condition. -/
import Derived.Test.YtoomhlfogeglcaaPt1
namespace Go.Proofs.Ytoomhlfogeglcaa.EV
open Go Go.Proofs
set_option linter.unusedVariables false
set_option linter.unusedSimpArgs false
set_option maxRecDepth 100000
set_option pp.deepTerms false
set_option pp.deepTerms.threshold 20
theorem tot_ok {l : List Int} (h : (tot l).2 = true) : tot l = (sumI l, true) ∧ l.length ≤ 64 ∧ l.all wgood = true := by
  unfold tot at h ⊢
  by_cases q : (l.all wgood && decide (l.length ≤ 64)) = true
  · rw [if_pos q]
    simp only [Bool.and_eq_true, decide_eq_true_eq] at q
    exact ⟨rfl, q.2, q.1⟩
  · rw [if_neg q] at h
    cases h
set_option maxHeartbeats 4000000 in
theorem law_WeightParts (h : Heap) (s : Value) (l : List Int) (hs : SL (intE .i64) 1 h s l) (wl : ∀ z ∈ l, (Lit.int .i64 z).wf = true) (n : Int) (wn : (Lit.int .i64 n).wf = true) :
    WPo (EF Try.prog O0 5 [s, .int .i64 n] h) fun q => q.1 = .bool true := by
  rw [EF_body (O := O0) (by kernel_rfl) Try.func5 rfl (rs := [.tmp 4]) rfl (bad := []) (by kernel_rfl) _ _ (m := 81) rfl]
  have ht := total_all l s h hs
  by_cases hno : (tot l).2 = false ∨ n < 0 ∨ n > 1099511627776
  · have hp := parts_no l s n h hs hno
    obtain ⟨a, c, hv⟩ := hs.val
    subst hv
    have dz : decide ((0 : Int) = 0) = true := by decide
    cases h2 : (tot l).2 with
    | false =>
      simp (maxSteps := 1000000) (disch := first | decide | omega | (simp only [go_sem]; first | done | omega)) only [go_sem, Int.reduceToNat, Nat.reduceMul, Nat.reduceAdd, Nat.reduceSub, ↓EU_region, ↓EU_draw, dec_t, dec_f, awake_ev, ht, hp, h2, dz]
    | true =>
      by_cases hl : (l.length : Int) = 0
      · have dl : decide ((l.length : Int) = 0) = true := decide_eq_true hl
        simp (maxSteps := 1000000) (disch := first | decide | omega | (simp only [go_sem]; first | done | omega)) only [go_sem, Int.reduceToNat, Nat.reduceMul, Nat.reduceAdd, Nat.reduceSub, ↓EU_region, ↓EU_draw, dec_t, dec_f, awake_ev, ht, hp, h2, dz, dl]
      · have dl : decide ((l.length : Int) = 0) = false := decide_eq_false hl
        by_cases h3 : n < 0
        · have d1 : decide (n < 0) = true := decide_eq_true h3
          simp (maxSteps := 1000000) (disch := first | decide | omega | (simp only [go_sem]; first | done | omega)) only [go_sem, Int.reduceToNat, Nat.reduceMul, Nat.reduceAdd, Nat.reduceSub, ↓EU_region, ↓EU_draw, dec_t, dec_f, awake_ev, ht, hp, h2, dz, dl, d1]
        · have d1 : decide (n < 0) = false := decide_eq_false h3
          have h4 : n > 1099511627776 := by
            rcases hno with e | e | e
            · rw [h2] at e; cases e
            · exact absurd e h3
            · exact e
          have d2 : decide (n > 1099511627776) = true := decide_eq_true h4
          simp (maxSteps := 1000000) (disch := first | decide | omega | (simp only [go_sem]; first | done | omega)) only [go_sem, Int.reduceToNat, Nat.reduceMul, Nat.reduceAdd, Nat.reduceSub, ↓EU_region, ↓EU_draw, dec_t, dec_f, awake_ev, ht, hp, h2, dz, dl, d1, d2]
  have h2 : (tot l).2 = true := by
    cases e : (tot l).2 with
    | true => rfl
    | false => exact absurd (.inl e) hno
  obtain ⟨hok, hl, hg⟩ := tot_ok h2
  have hn : 0 ≤ n ∧ n ≤ 1099511627776 := by omega
  have hpt := parts_yes l s n h hs hok hl hg hn
  rw [hok] at ht
  have hgd := sumI_good hg
  have hgw : ∀ w ∈ l, 1 ≤ w ∧ w ≤ 20 := fun w hw => wgood_facts (List.all_eq_true.1 hg w hw)
  have hmay : ∀ w ∈ l, wmay w (sumI l) n = true := fun w hw => wmay_of ⟨(hgw w hw).1, (hgw w hw).2, sumI_mem (fun x hx => (hgw x hx).1) hw, by omega, hn.1⟩
  have hbd : ∀ x ∈ shL l n, 0 ≤ x ∧ x ≤ 1099511627776 := fun x hx => by
    unfold shL at hx
    obtain ⟨u, hu, rfl⟩ := List.mem_map.1 hx
    have h1 := hmay u hu
    have h2 := mdR_may h1 (by omega)
    unfold shareR
    rw [h1, if_pos rfl]
    omega
  have d1 : decide (n < 0) = false := decide_eq_false (by omega)
  have d2 : decide (n > 1099511627776) = false := decide_eq_false (by omega)
  obtain ⟨a, c, hv⟩ := hs.val
  rw [hv] at ht hpt ⊢
  simp (maxSteps := 1000000) (disch := first | decide | omega | (simp only [go_sem]; first | done | omega)) only [go_sem, Int.reduceToNat, Nat.reduceMul, Nat.reduceAdd, Nat.reduceSub, ↓EU_region, ↓EU_draw, awake_ev, ht]
  repeat refine WPo_ob ?_
  refine hpt.mono ?_
  rintro ⟨v, h1⟩ ⟨O, Q, left, hleft, pO, sO, lQ, vQ, sQ, oQ, fQ, x1⟩
  simp only at oQ fQ x1
  obtain ⟨a2, c2, rfl⟩ := oQ.val
  have dt : ∀ x : Int, decide (x = x) = true := fun x => decide_eq_true rfl
  by_cases hl0 : (l.length : Int) = 0
  · have dl : decide ((l.length : Int) = 0) = true := decide_eq_true hl0
    have lQ0 : Q.length = 0 := by omega
    have dq : decide (((0 : Nat) : Int) = 0) = true := by decide
    simp (maxSteps := 1000000) (disch := first | decide | omega | (simp only [go_sem]; first | done | omega)) only [go_sem, Int.reduceToNat, Nat.reduceMul, Nat.reduceAdd, Nat.reduceSub, ↓EU_region, ↓EU_draw, dec_t, dec_f, dl, lQ0, dq]
  have dl : decide ((l.length : Int) = 0) = false := decide_eq_false hl0
  have hlb := left_bd hmay (by omega) hn
  have hml : min l.length left = left := by omega
  rw [hml] at sQ
  have hsum : sumI Q = n := by omega
  have lSH : (shL l n).length = l.length := List.length_map ..
  rw [lQ]
  simp (maxSteps := 1000000) (disch := first | decide | omega | (simp only [go_sem]; first | done | omega)) only [go_sem, Int.reduceToNat, Nat.reduceMul, Nat.reduceAdd, Nat.reduceSub, ↓EU_region, ↓EU_draw, dec_t, dec_f, dl, d1, d2, lQ, dt]
  repeat refine WPo_ob ?_
  refine (LP_rule (fun m st => ∃ (i : Nat) (tm : Fr), st = ⟨tm, h1, []⟩ ∧ m = l.length - i ∧ i ≤ l.length ∧ Fr.get tm 0 = .slice a l.length c ∧ Fr.get tm 1 = .int .i64 n ∧ Fr.get tm 5 = .int .i64 (sumI l) ∧ Fr.get tm 7 = .slice a2 l.length c2 ∧ Fr.get tm 8 = .int .i64 (sumI (Q.take i)) ∧ Fr.get tm 9 = .int .i64 (i : Int))
    (fun q => ∃ tm, q.2 = ⟨tm, h1, []⟩ ∧ q.1 = .exit 0 ∧ Fr.get tm 1 = .int .i64 n ∧ Fr.get tm 8 = .int .i64 n) ?_ l.length _ _ ?_ ?_).mono ?_
  · rintro m _ ⟨i, tm, rfl, hm, hi, g0, g1, g5, g7, g8, g9⟩
    by_cases hq : i < l.length
    · have hmm : l.length - (i + 1) < m := by omega
      have d : decide ((i : Int) < (l.length : Int)) = true := decide_eq_true (by omega)
      have hwi : wrapF .i64 ((i : Int) + 1) = ((i + 1 : Nat) : Int) := by rw [wrap64 (by omega)]; rfl
      obtain ⟨w, hw⟩ : ∃ w, l[i]? = some w := ⟨_, List.getElem?_eq_getElem hq⟩
      have hwm := List.mem_of_getElem? hw
      have hs1 : (shL l n)[i]? = some (shareR w (sumI l) n) := by unfold shL; rw [List.getElem?_map, hw]; rfl
      have hsE := share_ev w (sumI l) n h1 (by have := hgw w hwm; omega) (by omega) (by omega)
      have hvb := hbd _ (List.mem_of_getElem? hs1)
      have hq1 := vQ i _ hs1
      generalize shareR w (sumI l) n = sw at *
      obtain ⟨B, o, c', e, _, _, t0⟩ := (hs.ext x1).at hw rfl
      rw [hv] at e
      cases e
      have t0 := t0 0 _ rfl
      obtain ⟨x, hx⟩ : ∃ x, x = sw + (if (i : Int) ∈ O.take left then 1 else 0) := ⟨_, rfl⟩
      rw [← hx] at hq1
      have hxc : x = sw ∨ x = sw + 1 := by
        rw [hx]
        split
        · exact .inr rfl
        · exact .inl (by omega)
      obtain ⟨B2, o2, c2', e, _, _, t1⟩ := oQ.sl.at hq1 rfl
      rw [lQ] at e
      rw [← lQ] at e
      cases e
      have t1 := t1 0 _ rfl
      rw [add_z] at t0 t1
      have etk : Q.take (i + 1) = Q.take i ++ [x] := by rw [List.take_add_one, hq1]; rfl
      have hbQ : ∀ y ∈ Q.take i, 0 ≤ y ∧ y ≤ 1099511627777 := fun y hy => by
        obtain ⟨p, hp⟩ := List.getElem?_of_mem (List.mem_of_mem_take hy)
        have hpl := (List.getElem?_eq_some_iff.1 hp).1
        obtain ⟨z, hz⟩ : ∃ z, (shL l n)[p]? = some z := ⟨_, List.getElem?_eq_getElem (by omega)⟩
        have h1 := vQ p z hz
        rw [hp] at h1
        have h2 := hbd z (List.mem_of_getElem? hz)
        have h3 := Option.some.inj h1
        rw [h3]
        split <;> omega
      have hb : 0 ≤ sumI (Q.take i) ∧ sumI (Q.take i) ≤ ((Q.take i).length : Int) * 1099511627777 := by
        generalize Q.take i = T at *
        clear g8 etk
        induction T with
        | nil => exact ⟨Int.le_refl _, by decide⟩
        | cons y T ih =>
          have h1 := hbQ y List.mem_cons_self
          have h2 := ih fun z hz => hbQ z (List.mem_cons_of_mem _ hz)
          rw [sumI_cons, List.length_cons]
          omega
      have htl : (Q.take i).length ≤ 64 := by rw [List.length_take]; omega
      have wsum : wrapF .i64 (sumI (Q.take i) + x) = sumI (Q.take (i + 1)) := by rw [etk, sumI_snoc, wrap64 (by omega)]
      have w1 : wrapF .i64 (sw + 1) = sw + 1 := wrap64 (by omega)
      rcases hxc with e | e
      · subst e
        have dd : decide (x = x) = true := decide_eq_true rfl
        simp (maxSteps := 1000000) (disch := first | decide | omega | (simp only [go_sem]; first | done | omega)) only [go_sem, Int.reduceToNat, Nat.reduceMul, Nat.reduceAdd, Nat.reduceSub, ↓EU_region, ↓EU_draw, dec_t, dec_f, g0, g1, g5, g7, g8, g9, d, t0, t1, hsE, dt, wsum, hwi]
        exact ⟨l.length - (i + 1), hmm, i + 1, _, rfl, rfl, hq, by simp (maxSteps := 1000000) (disch := first | decide | omega | (simp only [go_sem]; first | done | omega)) only [go_sem, Int.reduceToNat, Nat.reduceMul, Nat.reduceAdd, Nat.reduceSub, ↓EU_region, ↓EU_draw, g0], by simp (maxSteps := 1000000) (disch := first | decide | omega | (simp only [go_sem]; first | done | omega)) only [go_sem, Int.reduceToNat, Nat.reduceMul, Nat.reduceAdd, Nat.reduceSub, ↓EU_region, ↓EU_draw, g1], by simp (maxSteps := 1000000) (disch := first | decide | omega | (simp only [go_sem]; first | done | omega)) only [go_sem, Int.reduceToNat, Nat.reduceMul, Nat.reduceAdd, Nat.reduceSub, ↓EU_region, ↓EU_draw, g5], by simp (maxSteps := 1000000) (disch := first | decide | omega | (simp only [go_sem]; first | done | omega)) only [go_sem, Int.reduceToNat, Nat.reduceMul, Nat.reduceAdd, Nat.reduceSub, ↓EU_region, ↓EU_draw, g7], by simp (maxSteps := 1000000) (disch := first | decide | omega | (simp only [go_sem]; first | done | omega)) only [go_sem, Int.reduceToNat, Nat.reduceMul, Nat.reduceAdd, Nat.reduceSub, ↓EU_region, ↓EU_draw], by simp (maxSteps := 1000000) (disch := first | decide | omega | (simp only [go_sem]; first | done | omega)) only [go_sem, Int.reduceToNat, Nat.reduceMul, Nat.reduceAdd, Nat.reduceSub, ↓EU_region, ↓EU_draw]⟩
      · have dn : decide (x = sw) = false := decide_eq_false (by omega)
        have dd : decide (x = sw + 1) = true := decide_eq_true e
        simp (maxSteps := 1000000) (disch := first | decide | omega | (simp only [go_sem]; first | done | omega)) only [go_sem, Int.reduceToNat, Nat.reduceMul, Nat.reduceAdd, Nat.reduceSub, ↓EU_region, ↓EU_draw, dec_t, dec_f, g0, g1, g5, g7, g8, g9, d, t0, t1, hsE, dn, dd, w1, wsum, hwi]
        exact ⟨l.length - (i + 1), hmm, i + 1, _, rfl, rfl, hq, by simp (maxSteps := 1000000) (disch := first | decide | omega | (simp only [go_sem]; first | done | omega)) only [go_sem, Int.reduceToNat, Nat.reduceMul, Nat.reduceAdd, Nat.reduceSub, ↓EU_region, ↓EU_draw, g0], by simp (maxSteps := 1000000) (disch := first | decide | omega | (simp only [go_sem]; first | done | omega)) only [go_sem, Int.reduceToNat, Nat.reduceMul, Nat.reduceAdd, Nat.reduceSub, ↓EU_region, ↓EU_draw, g1], by simp (maxSteps := 1000000) (disch := first | decide | omega | (simp only [go_sem]; first | done | omega)) only [go_sem, Int.reduceToNat, Nat.reduceMul, Nat.reduceAdd, Nat.reduceSub, ↓EU_region, ↓EU_draw, g5], by simp (maxSteps := 1000000) (disch := first | decide | omega | (simp only [go_sem]; first | done | omega)) only [go_sem, Int.reduceToNat, Nat.reduceMul, Nat.reduceAdd, Nat.reduceSub, ↓EU_region, ↓EU_draw, g7], by simp (maxSteps := 1000000) (disch := first | decide | omega | (simp only [go_sem]; first | done | omega)) only [go_sem, Int.reduceToNat, Nat.reduceMul, Nat.reduceAdd, Nat.reduceSub, ↓EU_region, ↓EU_draw], by simp (maxSteps := 1000000) (disch := first | decide | omega | (simp only [go_sem]; first | done | omega)) only [go_sem, Int.reduceToNat, Nat.reduceMul, Nat.reduceAdd, Nat.reduceSub, ↓EU_region, ↓EU_draw]⟩
    · have d : decide ((i : Int) < (l.length : Int)) = false := decide_eq_false (by omega)
      obtain rfl : i = l.length := by omega
      have etk : Q.take l.length = Q := List.take_of_length_le (by omega)
      rw [etk, hsum] at g8
      simp (maxSteps := 1000000) (disch := first | decide | omega | (simp only [go_sem]; first | done | omega)) only [go_sem, Int.reduceToNat, Nat.reduceMul, Nat.reduceAdd, Nat.reduceSub, ↓EU_region, ↓EU_draw, g0, g9, d]
      exact ⟨_, rfl, trivial, by simp (maxSteps := 1000000) (disch := first | decide | omega | (simp only [go_sem]; first | done | omega)) only [go_sem, Int.reduceToNat, Nat.reduceMul, Nat.reduceAdd, Nat.reduceSub, ↓EU_region, ↓EU_draw, g1], by simp (maxSteps := 1000000) (disch := first | decide | omega | (simp only [go_sem]; first | done | omega)) only [go_sem, Int.reduceToNat, Nat.reduceMul, Nat.reduceAdd, Nat.reduceSub, ↓EU_region, ↓EU_draw, g8]⟩
  · exact ⟨0, _, rfl, rfl, Nat.zero_le _, by simp (maxSteps := 1000000) (disch := first | decide | omega | (simp only [go_sem]; first | done | omega)) only [go_sem, Int.reduceToNat, Nat.reduceMul, Nat.reduceAdd, Nat.reduceSub, ↓EU_region, ↓EU_draw], by simp (maxSteps := 1000000) (disch := first | decide | omega | (simp only [go_sem]; first | done | omega)) only [go_sem, Int.reduceToNat, Nat.reduceMul, Nat.reduceAdd, Nat.reduceSub, ↓EU_region, ↓EU_draw], by simp (maxSteps := 1000000) (disch := first | decide | omega | (simp only [go_sem]; first | done | omega)) only [go_sem, Int.reduceToNat, Nat.reduceMul, Nat.reduceAdd, Nat.reduceSub, ↓EU_region, ↓EU_draw], by simp (maxSteps := 1000000) (disch := first | decide | omega | (simp only [go_sem]; first | done | omega)) only [go_sem, Int.reduceToNat, Nat.reduceMul, Nat.reduceAdd, Nat.reduceSub, ↓EU_region, ↓EU_draw], by simp (maxSteps := 1000000) (disch := first | decide | omega | (simp only [go_sem]; first | done | omega)) only [go_sem, Int.reduceToNat, Nat.reduceMul, Nat.reduceAdd, Nat.reduceSub, ↓EU_region, ↓EU_draw]; rfl, by simp (maxSteps := 1000000) (disch := first | decide | omega | (simp only [go_sem]; first | done | omega)) only [go_sem, Int.reduceToNat, Nat.reduceMul, Nat.reduceAdd, Nat.reduceSub, ↓EU_region, ↓EU_draw]; rfl⟩
  · omega
  · rintro ⟨_, _⟩ ⟨tm, rfl, rfl, g1, g8⟩
    simp (maxSteps := 1000000) (disch := first | decide | omega | (simp only [go_sem]; first | done | omega)) only [go_sem, Int.reduceToNat, Nat.reduceMul, Nat.reduceAdd, Nat.reduceSub, ↓EU_region, ↓EU_draw, g1, g8, dt]
end Go.Proofs.Ytoomhlfogeglcaa.EV
