/- Wide numbers: whole.MulDiv. No condition. -/
import Derived.Test.YtoomhlfogeglcaaWide3
namespace Go.Proofs.Ytoomhlfogeglcaa.EV
open Go Go.Proofs
set_option linter.unusedVariables false
set_option linter.unusedSimpArgs false
set_option maxRecDepth 100000
set_option pp.deepTerms false
set_option pp.deepTerms.threshold 20
noncomputable def negR (a b c : Int) : Bool := (decide (a < 0) != decide (b < 0)) != decide (c < 0)
/-- multiplied and divided, as the code goes about it -/
noncomputable def mdR (a b c : Int) : Int × Bool :=
  if c = 0 then (0, false) else if absI c ≤ absI a * absI b / 18446744073709551616 then (0, false)
  else if negR a b c && (decide (0 < absI a * absI b / absI c) || decide (0 < absI a * absI b % absI c)) then
    (fun q => if q = 0 ∨ 9223372036854775808 < q then (0, false) else (-q, true)) (if 0 < absI a * absI b % absI c then (absI a * absI b / absI c + 1) % 18446744073709551616 else absI a * absI b / absI c)
  else if 9223372036854775807 < absI a * absI b / absI c then (0, false) else (absI a * absI b / absI c, true)
theorem wneg {n : Int} (h : 0 < n ∧ n ≤ 9223372036854775808) : wrapF .i64 (wrapF .u64 (0 - n)) = -n := by
  have e : wrapF .i64 (wrapF .u64 (0 - n)) = wrapF .i64 (-n) := by
    rw [wU64_mod]
    have h1 : Int.emod ((0 - n) % 18446744073709551616) 18446744073709551616 = Int.emod (-n) 18446744073709551616 := by
      show (0 - n) % 18446744073709551616 % 18446744073709551616 = (-n) % 18446744073709551616
      omega
    show (fun m => cnd (sgnK .i64 && decide (halfK .i64 ≤ m)) (Int.sub m (fullK .i64)) m) (Int.emod ((0 - n) % 18446744073709551616) 18446744073709551616) = (fun m => cnd (sgnK .i64 && decide (halfK .i64 ≤ m)) (Int.sub m (fullK .i64)) m) (Int.emod (-n) 18446744073709551616)
    rw [h1]
  rw [e, wrap64 (by omega)]
set_option maxHeartbeats 8000000 in
theorem muldiv_ev (a b c : Int) (h : Heap) (ha : -9223372036854775808 ≤ a ∧ a < 9223372036854775808) (hb : -9223372036854775808 ≤ b ∧ b < 9223372036854775808) (hc : -9223372036854775808 ≤ c ∧ c < 9223372036854775808) :
    EF Try.prog O0 24 [.int .i64 a, .int .i64 b, .int .i64 c] h = some (.tuple ⟨[.int .i64 (mdR a b c).1, .bool (mdR a b c).2]⟩, h) := by
  have : WPo (EF Try.prog O0 24 [.int .i64 a, .int .i64 b, .int .i64 c] h) fun q => q = (.tuple ⟨[.int .i64 (mdR a b c).1, .bool (mdR a b c).2]⟩, h) := by
    unfold mdR
    rw [EF_body (O := O0) (by kernel_rfl) Try.func24 rfl (rs := [.tmp 6, .tmp 7]) rfl (bad := []) (by kernel_rfl) _ _ (m := 70) rfl]
    by_cases hc0 : c = 0
    · have hd : decide (c = 0) = true := decide_eq_true hc0
      rw [if_pos hc0]
      simp (maxSteps := 1000000) (disch := first | decide | omega | (simp only [go_sem]; first | done | omega)) only [go_sem, Int.reduceToNat, Nat.reduceMul, Nat.reduceAdd, Nat.reduceSub, ↓EU_region, ↓EU_draw, hd]
    · have hd : decide (c = 0) = false := decide_eq_false hc0
      rw [if_neg hc0]
      have za := size_ev a h ha
      have zb := size_ev b h hb
      have zc := size_ev c h hc
      have ra := absI_range ha
      have rb := absI_range hb
      have rc := absI_range hc
      have rc0 : 0 < absI c := by unfold absI; split <;> omega
      have zm := mul64_ev (absI a) (absI b) h (by omega) (by omega)
      have hP : 0 ≤ absI a * absI b := Int.mul_nonneg ra.1 rb.1
      generalize absI a = aa at *
      generalize absI b = bb at *
      generalize absI c = cc at *
      generalize aa * bb = P at *
      by_cases hhi : cc ≤ P / 18446744073709551616
      · have hdh : decide (cc ≤ P / 18446744073709551616) = true := decide_eq_true hhi
        rw [if_pos hhi]
        simp (maxSteps := 1000000) (disch := first | decide | omega | (simp only [go_sem]; first | done | omega)) only [go_sem, Int.reduceToNat, Nat.reduceMul, Nat.reduceAdd, Nat.reduceSub, ↓EU_region, ↓EU_draw, dec_t, dec_f, hd, za, zb, zc, zm, hdh]
      · have hdh : decide (cc ≤ P / 18446744073709551616) = false := decide_eq_false hhi
        rw [if_neg hhi]
        have zd := div64_ev (P / 18446744073709551616) (P % 18446744073709551616) cc h (by omega) (by omega) (by omega)
        rw [show P / 18446744073709551616 * 18446744073709551616 + P % 18446744073709551616 = P by omega] at zd
        have hq0 : 0 ≤ P / cc := Int.ediv_nonneg hP (by omega)
        have hqM : P / cc < 18446744073709551616 := (Int.ediv_lt_iff_lt_mul rc0).2 (by omega)
        have hr0 : 0 ≤ P % cc ∧ P % cc < cc := ⟨Int.emod_nonneg _ (by omega), Int.emod_lt_of_pos _ rc0⟩
        obtain ⟨n, hn⟩ : ∃ n, negR a b c = n := ⟨_, rfl⟩
        have hn' := hn
        unfold negR at hn'
        generalize P / cc = q at *
        generalize P % cc = r at *
        rw [hn]
        cases n with
        | false =>
          rw [Bool.false_and, if_neg (by decide)]
          by_cases hbig : 9223372036854775807 < q
          · have hdb : decide (9223372036854775807 < q) = true := decide_eq_true hbig
            rw [if_pos hbig]
            simp (maxSteps := 1000000) (disch := first | decide | omega | (simp only [go_sem]; first | done | omega)) only [go_sem, Int.reduceToNat, Nat.reduceMul, Nat.reduceAdd, Nat.reduceSub, ↓EU_region, ↓EU_draw, dec_t, dec_f, hd, za, zb, zc, zm, hdh, zd, hn', hdb]
          · have hdb : decide (9223372036854775807 < q) = false := decide_eq_false hbig
            have hw : wrapF .i64 q = q := wrap64 (by omega)
            rw [if_neg hbig]
            simp (maxSteps := 1000000) (disch := first | decide | omega | (simp only [go_sem]; first | done | omega)) only [go_sem, Int.reduceToNat, Nat.reduceMul, Nat.reduceAdd, Nat.reduceSub, ↓EU_region, ↓EU_draw, dec_t, dec_f, hd, za, zb, zc, zm, hdh, zd, hn', hdb, hw]
        | true =>
          rw [Bool.true_and]
          have w1 : wrapF .u64 (q + 1) = (q + 1) % 18446744073709551616 := wU64_mod _
          have m1 : 0 ≤ (q + 1) % 18446744073709551616 ∧ (q + 1) % 18446744073709551616 < 18446744073709551616 := by omega
          by_cases c2 : 0 < r
          · have dr : decide (0 < r) = true := decide_eq_true c2
            rw [if_pos (by simp [c2]), if_pos c2]
            dsimp only
            generalize (q + 1) % 18446744073709551616 = q' at *
            by_cases c1 : 0 < q
            · have dq : decide (0 < q) = true := decide_eq_true c1
              by_cases t0 : q' = 0
              · have k0 : decide (q' = 0) = true := decide_eq_true t0
                rw [if_pos (.inl t0)]
                simp (maxSteps := 1000000) (disch := first | decide | omega | (simp only [go_sem]; first | done | omega)) only [go_sem, Int.reduceToNat, Nat.reduceMul, Nat.reduceAdd, Nat.reduceSub, ↓EU_region, ↓EU_draw, dec_t, dec_f, hd, za, zb, zc, zm, hdh, zd, hn', dq, dr, w1, k0]
              · have k0 : decide (q' = 0) = false := decide_eq_false t0
                by_cases t1 : 9223372036854775808 < q'
                · have k1 : decide (9223372036854775808 < q') = true := decide_eq_true t1
                  rw [if_pos (.inr t1)]
                  simp (maxSteps := 1000000) (disch := first | decide | omega | (simp only [go_sem]; first | done | omega)) only [go_sem, Int.reduceToNat, Nat.reduceMul, Nat.reduceAdd, Nat.reduceSub, ↓EU_region, ↓EU_draw, dec_t, dec_f, hd, za, zb, zc, zm, hdh, zd, hn', dq, dr, w1, k0, k1]
                · have k1 : decide (9223372036854775808 < q') = false := decide_eq_false t1
                  have hw : wrapF .i64 (wrapF .u64 (0 - q')) = -q' := wneg (by omega)
                  rw [if_neg (by omega)]
                  simp (maxSteps := 1000000) (disch := first | decide | omega | (simp only [go_sem]; first | done | omega)) only [go_sem, Int.reduceToNat, Nat.reduceMul, Nat.reduceAdd, Nat.reduceSub, ↓EU_region, ↓EU_draw, dec_t, dec_f, hd, za, zb, zc, zm, hdh, zd, hn', dq, dr, w1, k0, k1, hw]
            · have dq : decide (0 < q) = false := decide_eq_false c1
              by_cases t0 : q' = 0
              · have k0 : decide (q' = 0) = true := decide_eq_true t0
                rw [if_pos (.inl t0)]
                simp (maxSteps := 1000000) (disch := first | decide | omega | (simp only [go_sem]; first | done | omega)) only [go_sem, Int.reduceToNat, Nat.reduceMul, Nat.reduceAdd, Nat.reduceSub, ↓EU_region, ↓EU_draw, dec_t, dec_f, hd, za, zb, zc, zm, hdh, zd, hn', dq, dr, w1, k0]
              · have k0 : decide (q' = 0) = false := decide_eq_false t0
                by_cases t1 : 9223372036854775808 < q'
                · have k1 : decide (9223372036854775808 < q') = true := decide_eq_true t1
                  rw [if_pos (.inr t1)]
                  simp (maxSteps := 1000000) (disch := first | decide | omega | (simp only [go_sem]; first | done | omega)) only [go_sem, Int.reduceToNat, Nat.reduceMul, Nat.reduceAdd, Nat.reduceSub, ↓EU_region, ↓EU_draw, dec_t, dec_f, hd, za, zb, zc, zm, hdh, zd, hn', dq, dr, w1, k0, k1]
                · have k1 : decide (9223372036854775808 < q') = false := decide_eq_false t1
                  have hw : wrapF .i64 (wrapF .u64 (0 - q')) = -q' := wneg (by omega)
                  rw [if_neg (by omega)]
                  simp (maxSteps := 1000000) (disch := first | decide | omega | (simp only [go_sem]; first | done | omega)) only [go_sem, Int.reduceToNat, Nat.reduceMul, Nat.reduceAdd, Nat.reduceSub, ↓EU_region, ↓EU_draw, dec_t, dec_f, hd, za, zb, zc, zm, hdh, zd, hn', dq, dr, w1, k0, k1, hw]
          · have dr : decide (0 < r) = false := decide_eq_false c2
            by_cases c1 : 0 < q
            · have dq : decide (0 < q) = true := decide_eq_true c1
              rw [if_pos (by simp [c1]), if_neg c2]
              dsimp only
              by_cases t0 : q = 0
              · have k0 : decide (q = 0) = true := decide_eq_true t0
                rw [if_pos (.inl t0)]
                simp (maxSteps := 1000000) (disch := first | decide | omega | (simp only [go_sem]; first | done | omega)) only [go_sem, Int.reduceToNat, Nat.reduceMul, Nat.reduceAdd, Nat.reduceSub, ↓EU_region, ↓EU_draw, dec_t, dec_f, hd, za, zb, zc, zm, hdh, zd, hn', dq, dr, k0]
              · have k0 : decide (q = 0) = false := decide_eq_false t0
                by_cases t1 : 9223372036854775808 < q
                · have k1 : decide (9223372036854775808 < q) = true := decide_eq_true t1
                  rw [if_pos (.inr t1)]
                  simp (maxSteps := 1000000) (disch := first | decide | omega | (simp only [go_sem]; first | done | omega)) only [go_sem, Int.reduceToNat, Nat.reduceMul, Nat.reduceAdd, Nat.reduceSub, ↓EU_region, ↓EU_draw, dec_t, dec_f, hd, za, zb, zc, zm, hdh, zd, hn', dq, dr, k0, k1]
                · have k1 : decide (9223372036854775808 < q) = false := decide_eq_false t1
                  have hw : wrapF .i64 (wrapF .u64 (0 - q)) = -q := wneg (by omega)
                  rw [if_neg (by omega)]
                  simp (maxSteps := 1000000) (disch := first | decide | omega | (simp only [go_sem]; first | done | omega)) only [go_sem, Int.reduceToNat, Nat.reduceMul, Nat.reduceAdd, Nat.reduceSub, ↓EU_region, ↓EU_draw, dec_t, dec_f, hd, za, zb, zc, zm, hdh, zd, hn', dq, dr, k0, k1, hw]
            · have dq : decide (0 < q) = false := decide_eq_false c1
              have hb : decide (9223372036854775807 < q) = false := decide_eq_false (by omega)
              have hw : wrapF .i64 q = q := wrap64 (by omega)
              rw [if_neg (by simp [c1, c2]), if_neg (by omega)]
              simp (maxSteps := 1000000) (disch := first | decide | omega | (simp only [go_sem]; first | done | omega)) only [go_sem, Int.reduceToNat, Nat.reduceMul, Nat.reduceAdd, Nat.reduceSub, ↓EU_region, ↓EU_draw, dec_t, dec_f, hd, za, zb, zc, zm, hdh, zd, hn', dq, dr, hb, hw]
  obtain ⟨q, e, rfl⟩ := this
  exact e
end Go.Proofs.Ytoomhlfogeglcaa.EV
