/- Contracts: sorting, stable: ranges changed, turned round. No condition. -/
import Derived.Test.YtoomhlfogeglcaaSt1
namespace Go.Proofs.Ytoomhlfogeglcaa.EV
open Go Go.Proofs
set_option linter.unusedVariables false
set_option linter.unusedSimpArgs false
set_option maxRecDepth 100000
set_option pp.deepTerms false
set_option pp.deepTerms.threshold 20
/-- which one comes where: two ranges changed -/
noncomputable def srM (a b n k : Nat) : Nat := if a ≤ k ∧ k < a + n then k - a + b else if b ≤ k ∧ k < b + n then k - b + a else k
set_option maxHeartbeats 2000000 in
theorem swapR_ev {h0 h : Heap} {s fv : Value} {l : List Int} (q : SS h0 s h l) (a b n : Nat) (hab : a + n ≤ b) (hb : b + n ≤ l.length) (hl : l.length < 1000) :
    WPo (EF Try.prog O0 51 [s, .int .i64 (a : Int), .int .i64 (b : Int), .int .i64 (n : Int), fv] h) fun r => ∃ l', SS h0 s r.2 l' ∧ l'.Perm l ∧ ∀ k, l'[k]? = l[srM a b n k]? := by
  rw [EF_body (O := O0) (by kernel_rfl) Try.func51 rfl (rs := []) rfl (bad := []) (by kernel_rfl) _ _ (m := 38) rfl]
  simp (maxSteps := 1000000) (disch := first | decide | omega | (simp only [go_sem]; first | done | omega)) only [go_sem, Int.reduceToNat, Nat.reduceMul, Nat.reduceAdd, Nat.reduceSub, ↓EU_region, ↓EU_draw]
  repeat refine WPo_ob ?_
  refine (LP_rule (fun m st => ∃ (i : Nat) (tm : Fr) (h' : Heap) (l' : List Int), st = ⟨tm, h', []⟩ ∧ m = n - i ∧ i ≤ n ∧ Fr.get tm 0 = s ∧ Fr.get tm 1 = .int .i64 (a : Int) ∧ Fr.get tm 2 = .int .i64 (b : Int) ∧ Fr.get tm 3 = .int .i64 (n : Int) ∧ Fr.get tm 10 = .int .i64 (i : Int) ∧ SS h0 s h' l' ∧ l'.Perm l ∧ ∀ k, l'[k]? = l[srM a b i k]?)
    (fun q => ∃ (tm : Fr) (h' : Heap) (l' : List Int), q.2 = ⟨tm, h', []⟩ ∧ q.1 = .exit 0 ∧ SS h0 s h' l' ∧ l'.Perm l ∧ ∀ k, l'[k]? = l[srM a b n k]?) ?_ n _ _ ?_ ?_).mono ?_
  · rintro m _ ⟨i, tm, h', l', rfl, hm, hi, g0, g1, g2, g3, g10, q', p', ks⟩
    by_cases hq : i < n
    · have hmm : n - (i + 1) < m := by omega
      have hi1 : i + 1 ≤ n := hq
      have d : decide ((i : Int) < (n : Int)) = true := decide_eq_true (by omega)
      have hwi : wrapF .i64 ((i : Int) + 1) = ((i + 1 : Nat) : Int) := by rw [wrap64 (by omega)]; rfl
      have wa : wrapF .i64 ((a : Int) + (i : Int)) = ((a + i : Nat) : Int) := by rw [wrap64 (by omega)]; rfl
      have wb : wrapF .i64 ((b : Int) + (i : Int)) = ((b + i : Nat) : Int) := by rw [wrap64 (by omega)]; rfl
      have ll := p'.length_eq
      obtain ⟨x, hx⟩ : ∃ x, l'[a + i]? = some x := ⟨_, List.getElem?_eq_getElem (by omega)⟩
      obtain ⟨y, hy⟩ : ∃ x, l'[b + i]? = some x := ⟨_, List.getElem?_eq_getElem (by omega)⟩
      obtain ⟨B, o, c, cs, hs, hB, hc, rx, ry, f1, f2, q2⟩ := q'.swap hx hy
      have gl := swL_get (x := x) (y := y) (l := l') (i := a + i) (j := b + i) (by omega) (by omega)
      have pp := (swL_perm hx hy).trans p'
      rw [hs] at g0
      simp (maxSteps := 1000000) (disch := first | decide | omega | (simp only [go_sem]; first | done | omega)) only [go_sem, Int.reduceToNat, Nat.reduceMul, Nat.reduceAdd, Nat.reduceSub, ↓EU_region, ↓EU_draw, g0, g1, g2, g3, g10, d, wa, wb, hc, rx, ry, hwi, Nat.mul_one]
      refine ⟨n - (i + 1), hmm, i + 1, _, _, _, rfl, rfl, hi1, by rw [hs]; simp (maxSteps := 1000000) (disch := first | decide | omega | (simp only [go_sem]; first | done | omega)) only [go_sem, Int.reduceToNat, Nat.reduceMul, Nat.reduceAdd, Nat.reduceSub, ↓EU_region, ↓EU_draw, g0], by simp (maxSteps := 1000000) (disch := first | decide | omega | (simp only [go_sem]; first | done | omega)) only [go_sem, Int.reduceToNat, Nat.reduceMul, Nat.reduceAdd, Nat.reduceSub, ↓EU_region, ↓EU_draw, g1], by simp (maxSteps := 1000000) (disch := first | decide | omega | (simp only [go_sem]; first | done | omega)) only [go_sem, Int.reduceToNat, Nat.reduceMul, Nat.reduceAdd, Nat.reduceSub, ↓EU_region, ↓EU_draw, g2], by simp (maxSteps := 1000000) (disch := first | decide | omega | (simp only [go_sem]; first | done | omega)) only [go_sem, Int.reduceToNat, Nat.reduceMul, Nat.reduceAdd, Nat.reduceSub, ↓EU_region, ↓EU_draw, g3], by simp (maxSteps := 1000000) (disch := first | decide | omega | (simp only [go_sem]; first | done | omega)) only [go_sem, Int.reduceToNat, Nat.reduceMul, Nat.reduceAdd, Nat.reduceSub, ↓EU_region, ↓EU_draw], q2, pp, fun k => ?_⟩
      rw [gl]
      have e1 := ks (a + i)
      have e2 := ks (b + i)
      have e3 := ks k
      rw [hx] at e1
      rw [hy] at e2
      unfold srM at *
      split
      · rename_i e; subst e
        rw [e1]
        congr 1
        (repeat' split) <;> omega
      · split
        · rename_i e; subst e
          rw [e2]
          congr 1
          (repeat' split) <;> omega
        · rw [e3]
          congr 1
          (repeat' split) <;> omega
    · have d : decide ((i : Int) < (n : Int)) = false := decide_eq_false (by omega)
      obtain rfl : i = n := by omega
      simp (maxSteps := 1000000) (disch := first | decide | omega | (simp only [go_sem]; first | done | omega)) only [go_sem, Int.reduceToNat, Nat.reduceMul, Nat.reduceAdd, Nat.reduceSub, ↓EU_region, ↓EU_draw, g3, g10, d]
      exact ⟨_, h', l', rfl, trivial, q', p', ks⟩
  · refine ⟨0, _, h, l, rfl, rfl, by omega, by simp (maxSteps := 1000000) (disch := first | decide | omega | (simp only [go_sem]; first | done | omega)) only [go_sem, Int.reduceToNat, Nat.reduceMul, Nat.reduceAdd, Nat.reduceSub, ↓EU_region, ↓EU_draw], by simp (maxSteps := 1000000) (disch := first | decide | omega | (simp only [go_sem]; first | done | omega)) only [go_sem, Int.reduceToNat, Nat.reduceMul, Nat.reduceAdd, Nat.reduceSub, ↓EU_region, ↓EU_draw], by simp (maxSteps := 1000000) (disch := first | decide | omega | (simp only [go_sem]; first | done | omega)) only [go_sem, Int.reduceToNat, Nat.reduceMul, Nat.reduceAdd, Nat.reduceSub, ↓EU_region, ↓EU_draw], by simp (maxSteps := 1000000) (disch := first | decide | omega | (simp only [go_sem]; first | done | omega)) only [go_sem, Int.reduceToNat, Nat.reduceMul, Nat.reduceAdd, Nat.reduceSub, ↓EU_region, ↓EU_draw], by simp (maxSteps := 1000000) (disch := first | decide | omega | (simp only [go_sem]; first | done | omega)) only [go_sem, Int.reduceToNat, Nat.reduceMul, Nat.reduceAdd, Nat.reduceSub, ↓EU_region, ↓EU_draw]; rfl, q, List.Perm.refl _, fun k => ?_⟩
    unfold srM
    congr 1
    (repeat' split) <;> omega
  · omega
  · rintro ⟨_, _⟩ ⟨tm, h', l', rfl, rfl, q', p', ks⟩
    simp (maxSteps := 1000000) (disch := first | decide | omega | (simp only [go_sem]; first | done | omega)) only [go_sem, Int.reduceToNat, Nat.reduceMul, Nat.reduceAdd, Nat.reduceSub, ↓EU_region, ↓EU_draw]
    exact ⟨l', q', p', ks⟩
/-- which one comes where: two neighbouring ranges changed -/
noncomputable def rtM (a m b k : Nat) : Nat := if a ≤ k ∧ k < a + (b - m) then k - a + m else if a + (b - m) ≤ k ∧ k < b then k - (b - m) else k
noncomputable def psM (m i j k : Nat) : Nat := if m - i ≤ k ∧ k < m then k + j else if m ≤ k ∧ k < m + j then k - i else k
set_option maxHeartbeats 4000000 in
theorem rotate_ev {h0 h : Heap} {s fv : Value} {l : List Int} (q : SS h0 s h l) (a m b : Nat) (ham : a < m) (hmb : m < b) (hb : b ≤ l.length) (hl : l.length < 1000) :
    WPo (EF Try.prog O0 49 [s, .int .i64 (a : Int), .int .i64 (m : Int), .int .i64 (b : Int), fv] h) fun r => ∃ l', SS h0 s r.2 l' ∧ l'.Perm l ∧ ∀ k, l'[k]? = l[rtM a m b k]? := by
  rw [EF_body (O := O0) (by kernel_rfl) Try.func49 rfl (rs := []) rfl (bad := []) (by kernel_rfl) _ _ (m := 58) rfl]
  have w1 : wrapF .i64 ((m : Int) - (a : Int)) = ((m - a : Nat) : Int) := by rw [wrap64 (by omega)]; omega
  have w2 : wrapF .i64 ((b : Int) - (m : Int)) = ((b - m : Nat) : Int) := by rw [wrap64 (by omega)]; omega
  simp (maxSteps := 1000000) (disch := first | decide | omega | (simp only [go_sem]; first | done | omega)) only [go_sem, Int.reduceToNat, Nat.reduceMul, Nat.reduceAdd, Nat.reduceSub, ↓EU_region, ↓EU_draw, w1, w2]
  repeat refine WPo_ob ?_
  refine (LP_rule (fun mm st => ∃ (i j : Nat) (tm : Fr) (h' : Heap) (l' : List Int), st = ⟨tm, h', []⟩ ∧ mm = i + j ∧ 1 ≤ i ∧ 1 ≤ j ∧ i ≤ m - a ∧ j ≤ b - m ∧ Fr.get tm 0 = s ∧ Fr.get tm 2 = .int .i64 (m : Int) ∧ Fr.get tm 4 = fv ∧ Fr.get tm 10 = .int .i64 (i : Int) ∧ Fr.get tm 11 = .int .i64 (j : Int) ∧ SS h0 s h' l' ∧ l'.Perm l ∧ ∀ k, l'[k]? = l[rtM a m b (psM m i j k)]?)
    (fun q => ∃ (i : Nat) (tm : Fr) (h' : Heap) (l' : List Int), q.2 = ⟨tm, h', []⟩ ∧ q.1 = .exit 0 ∧ 1 ≤ i ∧ i ≤ m - a ∧ i ≤ b - m ∧ Fr.get tm 0 = s ∧ Fr.get tm 2 = .int .i64 (m : Int) ∧ Fr.get tm 4 = fv ∧ Fr.get tm 10 = .int .i64 (i : Int) ∧ SS h0 s h' l' ∧ l'.Perm l ∧ ∀ k, l'[k]? = l[rtM a m b (psM m i i k)]?) ?_ (m - a + (b - m)) _ _ ?_ ?_).mono ?_
  · rintro mm _ ⟨i, j, tm, h', l', rfl, rfl, hi1, hj1, hi, hj, g0, g2, g4, g10, g11, q', p', ks⟩
    have ll := p'.length_eq
    by_cases hij : i = j
    · subst hij
      have dt : decide ((i : Int) = (i : Int)) = true := decide_eq_true rfl
      simp (maxSteps := 1000000) (disch := first | decide | omega | (simp only [go_sem]; first | done | omega)) only [go_sem, Int.reduceToNat, Nat.reduceMul, Nat.reduceAdd, Nat.reduceSub, ↓EU_region, ↓EU_draw, dec_t, dec_f, g10, g11, dt]
      exact ⟨i, _, h', l', rfl, trivial, hi1, hi, hj, by simp (maxSteps := 1000000) (disch := first | decide | omega | (simp only [go_sem]; first | done | omega)) only [go_sem, Int.reduceToNat, Nat.reduceMul, Nat.reduceAdd, Nat.reduceSub, ↓EU_region, ↓EU_draw, g0], by simp (maxSteps := 1000000) (disch := first | decide | omega | (simp only [go_sem]; first | done | omega)) only [go_sem, Int.reduceToNat, Nat.reduceMul, Nat.reduceAdd, Nat.reduceSub, ↓EU_region, ↓EU_draw, g2], by simp (maxSteps := 1000000) (disch := first | decide | omega | (simp only [go_sem]; first | done | omega)) only [go_sem, Int.reduceToNat, Nat.reduceMul, Nat.reduceAdd, Nat.reduceSub, ↓EU_region, ↓EU_draw, g4], by simp (maxSteps := 1000000) (disch := first | decide | omega | (simp only [go_sem]; first | done | omega)) only [go_sem, Int.reduceToNat, Nat.reduceMul, Nat.reduceAdd, Nat.reduceSub, ↓EU_region, ↓EU_draw, g10], q', p', ks⟩
    · have d : decide ((i : Int) = (j : Int)) = false := decide_eq_false (by omega)
      by_cases hgt : j < i
      · have dg : decide ((i : Int) > (j : Int)) = true := decide_eq_true (by omega)
        have w3 : wrapF .i64 ((m : Int) - (i : Int)) = ((m - i : Nat) : Int) := by rw [wrap64 (by omega)]; omega
        have w4 : wrapF .i64 ((i : Int) - (j : Int)) = ((i - j : Nat) : Int) := by rw [wrap64 (by omega)]; omega
        simp (maxSteps := 1000000) (disch := first | decide | omega | (simp only [go_sem]; first | done | omega)) only [go_sem, Int.reduceToNat, Nat.reduceMul, Nat.reduceAdd, Nat.reduceSub, ↓EU_region, ↓EU_draw, dec_t, dec_f, g0, g2, g4, g10, g11, d, dg, w3]
        repeat refine WPo_ob ?_
        refine (swapR_ev q' (m - i) m j (by omega) (by omega) (by omega)).mono ?_
        rintro ⟨v, h2⟩ ⟨l2, q2, p2, k2⟩
        simp (maxSteps := 1000000) (disch := first | decide | omega | (simp only [go_sem]; first | done | omega)) only [go_sem, Int.reduceToNat, Nat.reduceMul, Nat.reduceAdd, Nat.reduceSub, ↓EU_region, ↓EU_draw, g10, g11, w4]
        refine ⟨i - j + j, by omega, i - j, j, _, h2, l2, rfl, rfl, by omega, by omega, by omega, by omega, by simp (maxSteps := 1000000) (disch := first | decide | omega | (simp only [go_sem]; first | done | omega)) only [go_sem, Int.reduceToNat, Nat.reduceMul, Nat.reduceAdd, Nat.reduceSub, ↓EU_region, ↓EU_draw, g0], by simp (maxSteps := 1000000) (disch := first | decide | omega | (simp only [go_sem]; first | done | omega)) only [go_sem, Int.reduceToNat, Nat.reduceMul, Nat.reduceAdd, Nat.reduceSub, ↓EU_region, ↓EU_draw, g2], by simp (maxSteps := 1000000) (disch := first | decide | omega | (simp only [go_sem]; first | done | omega)) only [go_sem, Int.reduceToNat, Nat.reduceMul, Nat.reduceAdd, Nat.reduceSub, ↓EU_region, ↓EU_draw, g4], by simp (maxSteps := 1000000) (disch := first | decide | omega | (simp only [go_sem]; first | done | omega)) only [go_sem, Int.reduceToNat, Nat.reduceMul, Nat.reduceAdd, Nat.reduceSub, ↓EU_region, ↓EU_draw], by simp (maxSteps := 1000000) (disch := first | decide | omega | (simp only [go_sem]; first | done | omega)) only [go_sem, Int.reduceToNat, Nat.reduceMul, Nat.reduceAdd, Nat.reduceSub, ↓EU_region, ↓EU_draw, g11], q2, p2.trans p', fun k => ?_⟩
        rw [k2 k, ks]
        congr 1
        unfold srM psM
        congr 1
        (repeat' split) <;> omega
      · have dg : decide ((i : Int) > (j : Int)) = false := decide_eq_false (by omega)
        have w3 : wrapF .i64 ((m : Int) - (i : Int)) = ((m - i : Nat) : Int) := by rw [wrap64 (by omega)]; omega
        have w4 : wrapF .i64 ((j : Int) - (i : Int)) = ((j - i : Nat) : Int) := by rw [wrap64 (by omega)]; omega
        have w5 : wrapF .i64 ((m : Int) + (j : Int)) = ((m + j : Nat) : Int) := by rw [wrap64 (by omega)]; rfl
        have w6 : wrapF .i64 (((m + j : Nat) : Int) - (i : Int)) = ((m + j - i : Nat) : Int) := by rw [wrap64 (by omega)]; omega
        simp (maxSteps := 1000000) (disch := first | decide | omega | (simp only [go_sem]; first | done | omega)) only [go_sem, Int.reduceToNat, Nat.reduceMul, Nat.reduceAdd, Nat.reduceSub, ↓EU_region, ↓EU_draw, dec_t, dec_f, g0, g2, g4, g10, g11, d, dg, w3, w5, w6]
        repeat refine WPo_ob ?_
        refine (swapR_ev q' (m - i) (m + j - i) i (by omega) (by omega) (by omega)).mono ?_
        rintro ⟨v, h2⟩ ⟨l2, q2, p2, k2⟩
        simp (maxSteps := 1000000) (disch := first | decide | omega | (simp only [go_sem]; first | done | omega)) only [go_sem, Int.reduceToNat, Nat.reduceMul, Nat.reduceAdd, Nat.reduceSub, ↓EU_region, ↓EU_draw, g10, g11, w4]
        refine ⟨i + (j - i), by omega, i, j - i, _, h2, l2, rfl, rfl, by omega, by omega, by omega, by omega, by simp (maxSteps := 1000000) (disch := first | decide | omega | (simp only [go_sem]; first | done | omega)) only [go_sem, Int.reduceToNat, Nat.reduceMul, Nat.reduceAdd, Nat.reduceSub, ↓EU_region, ↓EU_draw, g0], by simp (maxSteps := 1000000) (disch := first | decide | omega | (simp only [go_sem]; first | done | omega)) only [go_sem, Int.reduceToNat, Nat.reduceMul, Nat.reduceAdd, Nat.reduceSub, ↓EU_region, ↓EU_draw, g2], by simp (maxSteps := 1000000) (disch := first | decide | omega | (simp only [go_sem]; first | done | omega)) only [go_sem, Int.reduceToNat, Nat.reduceMul, Nat.reduceAdd, Nat.reduceSub, ↓EU_region, ↓EU_draw, g4], by simp (maxSteps := 1000000) (disch := first | decide | omega | (simp only [go_sem]; first | done | omega)) only [go_sem, Int.reduceToNat, Nat.reduceMul, Nat.reduceAdd, Nat.reduceSub, ↓EU_region, ↓EU_draw, g10], by simp (maxSteps := 1000000) (disch := first | decide | omega | (simp only [go_sem]; first | done | omega)) only [go_sem, Int.reduceToNat, Nat.reduceMul, Nat.reduceAdd, Nat.reduceSub, ↓EU_region, ↓EU_draw], q2, p2.trans p', fun k => ?_⟩
        rw [k2 k, ks]
        congr 1
        unfold srM psM
        congr 1
        (repeat' split) <;> omega
  · refine ⟨m - a, b - m, _, h, l, rfl, rfl, by omega, by omega, by omega, by omega, by simp (maxSteps := 1000000) (disch := first | decide | omega | (simp only [go_sem]; first | done | omega)) only [go_sem, Int.reduceToNat, Nat.reduceMul, Nat.reduceAdd, Nat.reduceSub, ↓EU_region, ↓EU_draw], by simp (maxSteps := 1000000) (disch := first | decide | omega | (simp only [go_sem]; first | done | omega)) only [go_sem, Int.reduceToNat, Nat.reduceMul, Nat.reduceAdd, Nat.reduceSub, ↓EU_region, ↓EU_draw], by simp (maxSteps := 1000000) (disch := first | decide | omega | (simp only [go_sem]; first | done | omega)) only [go_sem, Int.reduceToNat, Nat.reduceMul, Nat.reduceAdd, Nat.reduceSub, ↓EU_region, ↓EU_draw], by simp (maxSteps := 1000000) (disch := first | decide | omega | (simp only [go_sem]; first | done | omega)) only [go_sem, Int.reduceToNat, Nat.reduceMul, Nat.reduceAdd, Nat.reduceSub, ↓EU_region, ↓EU_draw], by simp (maxSteps := 1000000) (disch := first | decide | omega | (simp only [go_sem]; first | done | omega)) only [go_sem, Int.reduceToNat, Nat.reduceMul, Nat.reduceAdd, Nat.reduceSub, ↓EU_region, ↓EU_draw], q, List.Perm.refl _, fun k => ?_⟩
    congr 1
    unfold rtM psM
    (repeat' split) <;> omega
  · omega
  · rintro ⟨_, _⟩ ⟨i, tm, h', l', rfl, rfl, hi1, hi, hj, g0, g2, g4, g10, q', p', ks⟩
    have ll := p'.length_eq
    have w3 : wrapF .i64 ((m : Int) - (i : Int)) = ((m - i : Nat) : Int) := by rw [wrap64 (by omega)]; omega
    simp (maxSteps := 1000000) (disch := first | decide | omega | (simp only [go_sem]; first | done | omega)) only [go_sem, Int.reduceToNat, Nat.reduceMul, Nat.reduceAdd, Nat.reduceSub, ↓EU_region, ↓EU_draw, g0, g2, g4, g10, w3]
    repeat refine WPo_ob ?_
    refine (swapR_ev q' (m - i) m i (by omega) (by omega) (by omega)).mono ?_
    rintro ⟨v, h2⟩ ⟨l2, q2, p2, k2⟩
    simp (maxSteps := 1000000) (disch := first | decide | omega | (simp only [go_sem]; first | done | omega)) only [go_sem, Int.reduceToNat, Nat.reduceMul, Nat.reduceAdd, Nat.reduceSub, ↓EU_region, ↓EU_draw]
    refine ⟨l2, q2, p2.trans p', fun k => ?_⟩
    rw [k2 k, ks]
    congr 1
    unfold srM psM rtM
    (repeat' split) <;> omega
end Go.Proofs.Ytoomhlfogeglcaa.EV
