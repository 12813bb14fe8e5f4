/- The reference's numbers of any size: MulDiv, Sum. No condition. -/
import Derived.Test.YtoomhlfogeglcaaBig8
namespace Go.Proofs.Ytoomhlfogeglcaa.EV
open Go Go.Proofs
set_option linter.unusedVariables false
set_option linter.unusedSimpArgs false
set_option maxRecDepth 100000
set_option pp.deepTerms false
set_option pp.deepTerms.threshold 20
theorem sv_mul {n m : Bool} {l a b : List Int} (h : val l = val a * val b) : sv (n != m) l = sv n a * sv m b := by
  unfold sv
  rw [h]
  cases n <;> cases m <;> simp [Int.neg_mul, Int.mul_neg]
theorem sv_abs {n : Bool} {l : List Int} {a : Int} (hd : dig l) (h : sv n l = a) : val l = absI a := by
  have := (val_range hd).1
  unfold sv at h
  unfold absI
  cases n with
  | true => rw [if_pos rfl] at h; split <;> omega
  | false => rw [if_neg (by decide)] at h; split <;> omega
theorem sv_neg {n : Bool} {l : List Int} {a : Int} (hd : dig l) (h : sv n l = a) (h0 : a ≠ 0) : n = decide (a < 0) := by
  have := (val_range hd).1
  unfold sv at h
  cases n with
  | true => rw [if_pos rfl] at h; rw [decide_eq_true (by omega)]
  | false => rw [if_neg (by decide)] at h; rw [decide_eq_false (by omega)]
theorem flR_zero (k : Bool) (B : Int) : flR k 0 B = 0 := by
  unfold flR
  rw [Int.zero_emod, Int.zero_ediv]
  cases k <;> rfl
theorem mdR_fit {a b c : Int} (ha : -9223372036854775808 ≤ a ∧ a < 9223372036854775808) (hb : -9223372036854775808 ≤ b ∧ b < 9223372036854775808) (hc : -9223372036854775808 ≤ c ∧ c < 9223372036854775808) (hc0 : c ≠ 0) :
    mdR a b c = (fitV (flR (negR a b c) (absI a * absI b) (absI c)), fitB (flR (negR a b c) (absI a * absI b) (absI c))) := by
  have hP : 0 ≤ absI a * absI b := Int.mul_nonneg (absI_range ha).1 (absI_range hb).1
  have rc := absI_range hc
  have rc0 : 0 < absI c := by unfold absI; split <;> omega
  have hout : ∀ x : Int, (x < -9223372036854775808 ∨ 9223372036854775807 < x) → (fitV x, fitB x) = (0, false) := fun x hx => by
    unfold fitV fitB
    rw [if_neg (by omega), decide_eq_false (by omega)]
  have hin : ∀ x : Int, (-9223372036854775808 ≤ x ∧ x ≤ 9223372036854775807) → (fitV x, fitB x) = (x, true) := fun x hx => by
    unfold fitV fitB
    rw [if_pos (by omega), decide_eq_true (by omega)]
  unfold mdR flR
  rw [if_neg hc0]
  generalize absI a * absI b = P at *
  generalize absI c = C at *
  have hq0 : 0 ≤ P / C := Int.ediv_nonneg hP (by omega)
  have hr0 : 0 ≤ P % C ∧ P % C < C := ⟨Int.emod_nonneg _ (by omega), Int.emod_lt_of_pos _ rc0⟩
  by_cases hhi : C ≤ P / 18446744073709551616
  · rw [if_pos hhi]
    have hQ : 18446744073709551616 ≤ P / C := (Int.le_ediv_iff_mul_le rc0).2 (by omega)
    cases negR a b c with
    | true =>
      simp only [if_true]
      rw [hout _ (by split <;> omega)]
    | false =>
      simp only [Bool.false_eq_true, if_false]
      rw [hout _ (by omega)]
  · rw [if_neg hhi]
    have hQ : P / C < 18446744073709551616 := (Int.ediv_lt_iff_lt_mul rc0).2 (by omega)
    generalize P / C = q at *
    generalize P % C = r at *
    cases negR a b c with
    | false =>
      simp only [Bool.false_and, Bool.false_eq_true, if_false]
      by_cases h1 : 9223372036854775807 < q
      · rw [if_pos h1, hout _ (.inr h1)]
      · rw [if_neg h1, hin _ (by omega)]
    | true =>
      simp only [Bool.true_and, if_true]
      by_cases hr : 0 < r
      · have e1 : (decide (0 < q) || decide (0 < r)) = true := by simp [hr]
        rw [if_pos e1, if_pos hr, if_pos hr]
        try dsimp only
        by_cases h0 : (q + 1) % 18446744073709551616 = 0 ∨ 9223372036854775808 < (q + 1) % 18446744073709551616
        · rw [if_pos h0, hout _ (by omega)]
        · rw [if_neg h0, hin _ (by omega)]
          congr 1
          omega
      · rw [if_neg hr, if_neg hr]
        by_cases hq : 0 < q
        · have e1 : (decide (0 < q) || decide (0 < r)) = true := by simp [hq]
          rw [if_pos e1]
          try dsimp only
          by_cases h0 : q = 0 ∨ 9223372036854775808 < q
          · rw [if_pos h0, hout _ (by omega)]
          · rw [if_neg h0, hin _ (by omega)]
        · have e1 : (decide (0 < q) || decide (0 < r)) = false := by simp [hq, hr]
          have e2 : q = 0 := by omega
          subst e2
          rw [if_neg (by rw [e1]; decide), if_neg (by decide), hin _ (by omega)]
          rfl
theorem flR_signs {na nb nc : Bool} {la lb lc lp : List Int} {a b c : Int} (da : dig la) (db : dig lb) (dc : dig lc) (ea : sv na la = a) (eb : sv nb lb = b) (ec : sv nc lc = c) (ep : val lp = val la * val lb) (hc : c ≠ 0) :
    flR ((na != nb) != nc) (val lp) (val lc) = flR (negR a b c) (absI a * absI b) (absI c) := by
  rw [ep, sv_abs da ea, sv_abs db eb, sv_abs dc ec]
  by_cases ha : a = 0
  · have : absI a = 0 := by unfold absI; rw [ha]; rfl
    rw [this, Int.zero_mul, flR_zero, flR_zero]
  · by_cases hb : b = 0
    · have : absI b = 0 := by unfold absI; rw [hb]; rfl
      rw [this, Int.mul_zero, flR_zero, flR_zero]
    · rw [sv_neg da ea ha, sv_neg db eb hb, sv_neg dc ec hc]; rfl
set_option maxHeartbeats 4000000 in
theorem rmuldiv_ev (a b c : Int) (h : Heap) (ha : -9223372036854775808 ≤ a ∧ a < 9223372036854775808) (hb : -9223372036854775808 ≤ b ∧ b < 9223372036854775808) (hc : -9223372036854775808 ≤ c ∧ c < 9223372036854775808) :
    Pu (EF Try.prog O0 29 [.int .i64 a, .int .i64 b, .int .i64 c] h) h (.tuple ⟨[.int .i64 (mdR a b c).1, .bool (mdR a b c).2]⟩) := by
  unfold Pu
  rw [EF_body (O := O0) (by kernel_rfl) Try.func29 rfl (rs := [.tmp 6, .tmp 7]) rfl (bad := []) (by kernel_rfl) _ _ (m := 21) rfl]
  by_cases hc0 : c = 0
  · have d : decide (c = 0) = true := decide_eq_true hc0
    have e : mdR a b c = (0, false) := by unfold mdR; rw [if_pos hc0]
    rw [e]
    simp (maxSteps := 1000000) (disch := first | decide | omega | (simp only [go_sem]; first | done | omega)) only [go_sem, Int.reduceToNat, Nat.reduceMul, Nat.reduceAdd, Nat.reduceSub, ↓EU_region, ↓EU_draw, d]
    exact ⟨trivial, Ext.refl _⟩
  · have d : decide (c = 0) = false := decide_eq_false hc0
    rw [mdR_fit ha hb hc hc0]
    simp (maxSteps := 1000000) (disch := first | decide | omega | (simp only [go_sem]; first | done | omega)) only [go_sem, Int.reduceToNat, Nat.reduceMul, Nat.reduceAdd, Nat.reduceSub, ↓EU_region, ↓EU_draw, d]
    repeat refine WPo_ob ?_
    refine (rof_ev a h ha).mono ?_
    rintro ⟨v, h1⟩ ⟨n1, l1, s1, rfl, o1, d1, k1, e1, x1⟩
    simp only at o1 x1
    simp (maxSteps := 1000000) (disch := first | decide | omega | (simp only [go_sem]; first | done | omega)) only [go_sem, Int.reduceToNat, Nat.reduceMul, Nat.reduceAdd, Nat.reduceSub, ↓EU_region, ↓EU_draw]
    repeat refine WPo_ob ?_
    refine (rof_ev b h1 hb).mono ?_
    rintro ⟨v, h2⟩ ⟨n2, l2, s2, rfl, o2, d2, k2, e2, x2⟩
    simp only at o2 x2
    simp (maxSteps := 1000000) (disch := first | decide | omega | (simp only [go_sem]; first | done | omega)) only [go_sem, Int.reduceToNat, Nat.reduceMul, Nat.reduceAdd, Nat.reduceSub, ↓EU_region, ↓EU_draw]
    repeat refine WPo_ob ?_
    refine (rmul_ev n1 n2 l1 l2 _ _ h2 (o1.ext x2) o2 d1 d2 (by omega) (by omega)).mono ?_
    rintro ⟨v, h3⟩ ⟨l3, s3, rfl, o3, d3, v3, k3, x3⟩
    simp only at o3 x3
    simp (maxSteps := 1000000) (disch := first | decide | omega | (simp only [go_sem]; first | done | omega)) only [go_sem, Int.reduceToNat, Nat.reduceMul, Nat.reduceAdd, Nat.reduceSub, ↓EU_region, ↓EU_draw]
    repeat refine WPo_ob ?_
    refine (rof_ev c h3 hc).mono ?_
    rintro ⟨v, h4⟩ ⟨n4, l4, s4, rfl, o4, d4, k4, e4, x4⟩
    simp only at o4 x4
    simp (maxSteps := 1000000) (disch := first | decide | omega | (simp only [go_sem]; first | done | omega)) only [go_sem, Int.reduceToNat, Nat.reduceMul, Nat.reduceAdd, Nat.reduceSub, ↓EU_region, ↓EU_draw]
    repeat refine WPo_ob ?_
    have hC : 1 ≤ val l4 := by rw [sv_abs d4 e4]; unfold absI; split <;> omega
    refine (rdiv_ev (n1 != n2) n4 l3 l4 _ _ h4 (o3.ext x4) o4 d3 d4 (by omega) (by omega) hC).mono ?_
    rintro ⟨v, h5⟩ ⟨n5, l5, s5, rfl, o5, d5, e5, k5, x5⟩
    simp only at o5 x5
    rw [flR_signs d1 d2 d4 e1 e2 e4 v3 hc0] at e5
    have hf := rfits_ev n5 l5 s5 h5 o5 d5 (by omega)
    rw [e5] at hf
    unfold fitT at hf
    simp (maxSteps := 1000000) (disch := first | decide | omega | (simp only [go_sem]; first | done | omega)) only [go_sem, Int.reduceToNat, Nat.reduceMul, Nat.reduceAdd, Nat.reduceSub, ↓EU_region, ↓EU_draw]
    repeat refine WPo_ob ?_
    refine hf.bind fun h6 x6 => ?_
    simp (maxSteps := 1000000) (disch := first | decide | omega | (simp only [go_sem]; first | done | omega)) only [go_sem, Int.reduceToNat, Nat.reduceMul, Nat.reduceAdd, Nat.reduceSub, ↓EU_region, ↓EU_draw]
    exact ⟨trivial, ((((x1.trans x2).trans x3).trans x4).trans x5).trans x6⟩
end Go.Proofs.Ytoomhlfogeglcaa.EV
