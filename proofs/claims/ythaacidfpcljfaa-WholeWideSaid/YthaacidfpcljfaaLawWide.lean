/- WholeWide, plainly. No condition. -/
import Derived.Test.YthaacidfpcljfaaBig5
namespace Go.Proofs.Ythaacidfpcljfaa.EV
open Go Go.Proofs
set_option linter.unusedVariables false
set_option linter.unusedSimpArgs false
set_option maxRecDepth 100000
set_option pp.deepTerms false
set_option pp.deepTerms.threshold 20
theorem SL.veq {α : Type} {e : α → List Value} {es : Nat} {h : Heap} {v : Value} {l : List α} (s : SL e es h v l) : veq v v = true := by
  cases s with
  | nil => exact veq_slN _ _
  | mk b o c l cs hb hc hl hx hcap hq => exact veq_slS _ _ _ _
theorem i64_wf {z : Int} (h : (Lit.int .i64 z).wf = true) : -9223372036854775808 ≤ z ∧ z < 9223372036854775808 := by
  have : (Lit.int .i64 z).wf = (decide (IntKind.i64.min ≤ z) && decide (z ≤ IntKind.i64.max)) := rfl
  rw [this] at h
  simp only [Bool.and_eq_true, decide_eq_true_eq] at h
  have e1 : IntKind.i64.min = -9223372036854775808 := rfl
  have e2 : IntKind.i64.max = 9223372036854775807 := rfl
  omega
theorem sv_mul {n m : Bool} {l a b : List Int} (h : val l = val a * val b) : sv (n != m) l = sv n a * sv m b := by
  unfold sv
  rw [h]
  cases n <;> cases m <;> simp [Int.neg_mul, Int.mul_neg]
theorem mdR_floor {a b c : Int} (ha : -9223372036854775808 ≤ a ∧ a < 9223372036854775808) (hb : -9223372036854775808 ≤ b ∧ b < 9223372036854775808) (hc : 1 ≤ c ∧ c < 9223372036854775808) (hok : (mdR a b c).2 = true) :
    (mdR a b c).1 * c ≤ a * b ∧ a * b < ((mdR a b c).1 + 1) * c ∧ -9223372036854775808 ≤ (mdR a b c).1 ∧ (mdR a b c).1 < 9223372036854775808 := by
  have ec : absI c = c := by unfold absI; rw [if_neg (by omega)]
  have en : negR a b c = (decide (a < 0) != decide (b < 0)) := by unfold negR; rw [decide_eq_false (by omega : ¬ c < 0)]; cases decide (a < 0) <;> cases decide (b < 0) <;> rfl
  have hP : 0 ≤ absI a * absI b := Int.mul_nonneg (absI_range ha).1 (absI_range hb).1
  have hab := @absI_mul a b
  unfold mdR at hok ⊢
  rw [ec, en, if_neg (by omega)] at hok ⊢
  rw [hab]
  generalize absI a * absI b = P at *
  have hq0 : 0 ≤ P / c := Int.ediv_nonneg hP (by omega)
  have hr0 : 0 ≤ P % c ∧ P % c < c := ⟨Int.emod_nonneg _ (by omega), Int.emod_lt_of_pos _ (by omega)⟩
  have hdm := Int.mul_ediv_add_emod P c
  rw [Int.mul_comm] at hdm
  by_cases hhi : c ≤ P / 18446744073709551616
  · rw [if_pos hhi] at hok
    cases hok
  · rw [if_neg hhi] at hok ⊢
    have hqM : P / c < 18446744073709551616 := (Int.ediv_lt_iff_lt_mul (by omega)).2 (by omega)
    generalize P / c = q at *
    generalize P % c = r at *
    cases hn : (decide (a < 0) != decide (b < 0)) with
    | false =>
      rw [hn] at hok
      simp only [Bool.false_and, Bool.false_eq_true, if_false] at hok ⊢
      by_cases hb' : 9223372036854775807 < q
      · rw [if_pos hb'] at hok; cases hok
      · rw [if_neg hb'] at hok ⊢
        dsimp only
        rw [Int.add_mul, Int.one_mul]
        omega
    | true =>
      rw [hn] at hok
      simp only [Bool.true_and, if_true] at hok ⊢
      by_cases hz : 0 < q ∨ 0 < r
      · have hzb : (decide (0 < q) || decide (0 < r)) = true := by simpa using hz
        rw [if_pos hzb] at hok ⊢
        try dsimp only at hok ⊢
        by_cases hr : 0 < r
        · rw [if_pos hr] at hok ⊢
          by_cases h0 : (q + 1) % 18446744073709551616 = 0 ∨ 9223372036854775808 < (q + 1) % 18446744073709551616
          · rw [if_pos h0] at hok; cases hok
          · rw [if_neg h0] at hok ⊢
            have e : (q + 1) % 18446744073709551616 = q + 1 := by omega
            rw [e] at h0 ⊢
            dsimp only
            rw [Int.add_mul, Int.one_mul, Int.neg_mul, Int.add_mul, Int.one_mul]
            omega
        · rw [if_neg hr] at hok ⊢
          by_cases h0 : q = 0 ∨ 9223372036854775808 < q
          · rw [if_pos h0] at hok; cases hok
          · rw [if_neg h0] at hok ⊢
            dsimp only
            rw [Int.add_mul, Int.one_mul, Int.neg_mul]
            omega
      · have hzb : (decide (0 < q) || decide (0 < r)) = false := by simpa using hz
        have q0 : q = 0 := by omega
        subst q0
        rw [hzb, if_neg (by decide), if_neg (by decide)]
        dsimp only
        rw [Int.zero_mul] at *
        rw [Int.add_mul, Int.one_mul]
        omega
set_option maxHeartbeats 8000000 in
theorem law_WholeWide (h : Heap) (a : Int) (wa : (Lit.int .i64 a).wf = true) (b : Int) (wb : (Lit.int .i64 b).wf = true) (c : Int) (wc : (Lit.int .i64 c).wf = true) :
    WPo (EF Try.prog O0 7 [.int .i64 a, .int .i64 b, .int .i64 c] h) fun q => q.1 = .bool true := by
  have ha := i64_wf wa
  have hb := i64_wf wb
  have hc := i64_wf wc
  rw [EF_body (O := O0) (by kernel_rfl) Try.func7 rfl (rs := [.tmp 6]) rfl (bad := [5, 6]) (by kernel_rfl) _ _ (m := 86) rfl]
  simp (maxSteps := 1000000) (disch := first | decide | omega | (simp only [go_sem]; first | done | omega)) only [go_sem, Int.reduceToNat, Nat.reduceMul, Nat.reduceAdd, Nat.reduceSub, ↓EU_region, ↓EU_draw]
  repeat refine WPo_ob ?_
  refine (awake_pu h).bind fun h1 x1 => ?_
  simp (maxSteps := 1000000) (disch := first | decide | omega | (simp only [go_sem]; first | done | omega)) only [go_sem, Int.reduceToNat, Nat.reduceMul, Nat.reduceAdd, Nat.reduceSub, ↓EU_region, ↓EU_draw]
  repeat refine WPo_ob ?_
  refine (wide_ev a b h1 ha hb).bind fun h2 x2 => ?_
  unfold wideL
  have hP := mul_range63 ha hb
  obtain ⟨P, eP⟩ : ∃ z, a * b = z := ⟨_, rfl⟩
  rw [eP] at hP ⊢
  simp (maxSteps := 1000000) (disch := first | decide | omega | (simp only [go_sem]; first | done | omega)) only [go_sem, Int.reduceToNat, Nat.reduceMul, Nat.reduceAdd, Nat.reduceSub, ↓EU_region, ↓EU_draw]
  repeat refine WPo_ob ?_
  refine (rof_ev 4294967296 h2 (by decide)).mono ?_
  rintro ⟨v, h3⟩ ⟨n3, l3, s3, rfl, o3, d3, k3, e3, x3⟩
  simp only at o3 x3
  unfold bigV
  obtain ⟨p3, q3, rfl⟩ := o3.val
  simp (maxSteps := 1000000) (disch := first | decide | omega | (simp only [go_sem]; first | done | omega)) only [go_sem, Int.reduceToNat, Nat.reduceMul, Nat.reduceAdd, Nat.reduceSub, ↓EU_region, ↓EU_draw]
  have x4 : Ext h2 (h3.push (.cells [.bool n3, .slice p3 l3.length q3] 0)) := x3.push _
  have o4 := o3.ext ((Ext.refl h3).push (.cells [.bool n3, .slice p3 l3.length q3] 0))
  have c4 : (h3.push (.cells [.bool n3, .slice p3 l3.length q3] 0)).get h3.next = .cells [.bool n3, .slice p3 l3.length q3] 0 := get_push_new _ _
  have hn4 : h3.next < (h3.push (.cells [.bool n3, .slice p3 l3.length q3] 0)).next := by rw [next_push]; omega
  rw [EU_bad _ _ rfl, EC_tab (tab := [(false, none), (true, none), (false, (some (0, 1))), (true, none), (false, (some (0, 2))), (true, none), (false, none), (false, none), (false, none), (true, none), (false, (some (0, 4))), (true, none), (false, none), (false, none), (false, none), (true, none), (true, none), (true, none), (true, none), (true, none)]) (by kernel_rfl)]
  simp (maxSteps := 1000000) (disch := first | decide | omega | (simp only [go_sem]; first | done | omega)) only [go_sem, Int.reduceToNat, Nat.reduceMul, Nat.reduceAdd, Nat.reduceSub, ↓EU_region, ↓EU_draw, c4]
  generalize h3.push (.cells [.bool n3, .slice p3 l3.length q3] 0) = h4 at *
  have z4 := Ext.refl h4
  have shr := fun t x y => shr32 Try.prog t x y (P % 18446744073709551616)
  have anr := fun t x y => and32 Try.prog t x y (a := P % 18446744073709551616) (by omega)
  have w1 : wrapF .i64 (P % 18446744073709551616 / 4294967296) = P % 18446744073709551616 / 4294967296 := wrap64 (by omega)
  have w2 : wrapF .i64 (P % 18446744073709551616 % 4294967296) = P % 18446744073709551616 % 4294967296 := wrap64 (by omega)
  have n4 := n3; have d4 := d3; have k4 := k3
  repeat refine WPo_ob ?_
  refine (rof_ev (P / 18446744073709551616) h4 (by omega)).mono ?_
  rintro ⟨v, h5⟩ ⟨n5, l5, s5, rfl, o5, d5, k5, e5, x5⟩
  simp only at o5 x5
  try unfold bigV
  have z5 := z4.trans x5
  have c5 := c4; rw [← z5.old _ hn4] at c5
  obtain ⟨p5, q5, rfl⟩ := o5.val
  simp (maxSteps := 1000000) (disch := first | decide | omega | (simp only [go_sem]; first | done | omega)) only [go_sem, Int.reduceToNat, Nat.reduceMul, Nat.reduceAdd, Nat.reduceSub, ↓EU_region, ↓EU_draw, c4, c5, shr, anr, w1, w2]
  repeat refine WPo_ob ?_
  refine (rmul_ev n5 n3 l5 l3 _ _ h5 (o5.ext (Ext.refl _)) (o4.ext (x5)) d5 d3 (by omega) (by omega)).mono ?_
  obtain ⟨n6, en6⟩ : ∃ z, (n5 != n3) = z := ⟨_, rfl⟩
  rw [en6]
  rintro ⟨v, h6⟩ ⟨l6, s6, rfl, o6, d6, v6, k6, x6⟩
  simp only at o6 x6
  try unfold bigV
  have z6 := z5.trans x6
  have c6 := c4; rw [← z6.old _ hn4] at c6
  obtain ⟨p6, q6, rfl⟩ := o6.val
  simp (maxSteps := 1000000) (disch := first | decide | omega | (simp only [go_sem]; first | done | omega)) only [go_sem, Int.reduceToNat, Nat.reduceMul, Nat.reduceAdd, Nat.reduceSub, ↓EU_region, ↓EU_draw, c4, c5, c6, shr, anr, w1, w2]
  repeat refine WPo_ob ?_
  refine (rmul_ev n6 n3 l6 l3 _ _ h6 (o6.ext (Ext.refl _)) (o4.ext ((x5).trans x6)) d6 d3 (by omega) (by omega)).mono ?_
  obtain ⟨n7, en7⟩ : ∃ z, (n6 != n3) = z := ⟨_, rfl⟩
  rw [en7]
  rintro ⟨v, h7⟩ ⟨l7, s7, rfl, o7, d7, v7, k7, x7⟩
  simp only at o7 x7
  try unfold bigV
  have z7 := z6.trans x7
  have c7 := c4; rw [← z7.old _ hn4] at c7
  obtain ⟨p7, q7, rfl⟩ := o7.val
  simp (maxSteps := 1000000) (disch := first | decide | omega | (simp only [go_sem]; first | done | omega)) only [go_sem, Int.reduceToNat, Nat.reduceMul, Nat.reduceAdd, Nat.reduceSub, ↓EU_region, ↓EU_draw, c4, c5, c6, c7, shr, anr, w1, w2]
  repeat refine WPo_ob ?_
  refine (rof_ev (P % 18446744073709551616 / 4294967296) h7 (by omega)).mono ?_
  rintro ⟨v, h8⟩ ⟨n8, l8, s8, rfl, o8, d8, k8, e8, x8⟩
  simp only at o8 x8
  try unfold bigV
  have z8 := z7.trans x8
  have c8 := c4; rw [← z8.old _ hn4] at c8
  obtain ⟨p8, q8, rfl⟩ := o8.val
  simp (maxSteps := 1000000) (disch := first | decide | omega | (simp only [go_sem]; first | done | omega)) only [go_sem, Int.reduceToNat, Nat.reduceMul, Nat.reduceAdd, Nat.reduceSub, ↓EU_region, ↓EU_draw, c4, c5, c6, c7, c8, shr, anr, w1, w2]
  repeat refine WPo_ob ?_
  refine (rmul_ev n8 n3 l8 l3 _ _ h8 (o8.ext (Ext.refl _)) (o4.ext ((((x5).trans x6).trans x7).trans x8)) d8 d3 (by omega) (by omega)).mono ?_
  obtain ⟨n9, en9⟩ : ∃ z, (n8 != n3) = z := ⟨_, rfl⟩
  rw [en9]
  rintro ⟨v, h9⟩ ⟨l9, s9, rfl, o9, d9, v9, k9, x9⟩
  simp only at o9 x9
  try unfold bigV
  have z9 := z8.trans x9
  have c9 := c4; rw [← z9.old _ hn4] at c9
  obtain ⟨p9, q9, rfl⟩ := o9.val
  simp (maxSteps := 1000000) (disch := first | decide | omega | (simp only [go_sem]; first | done | omega)) only [go_sem, Int.reduceToNat, Nat.reduceMul, Nat.reduceAdd, Nat.reduceSub, ↓EU_region, ↓EU_draw, c4, c5, c6, c7, c8, c9, shr, anr, w1, w2]
  repeat refine WPo_ob ?_
  refine (rof_ev (P % 18446744073709551616 % 4294967296) h9 (by omega)).mono ?_
  rintro ⟨v, h10⟩ ⟨n10, l10, s10, rfl, o10, d10, k10, e10, x10⟩
  simp only at o10 x10
  try unfold bigV
  have z10 := z9.trans x10
  have c10 := c4; rw [← z10.old _ hn4] at c10
  obtain ⟨p10, q10, rfl⟩ := o10.val
  simp (maxSteps := 1000000) (disch := first | decide | omega | (simp only [go_sem]; first | done | omega)) only [go_sem, Int.reduceToNat, Nat.reduceMul, Nat.reduceAdd, Nat.reduceSub, ↓EU_region, ↓EU_draw, c4, c5, c6, c7, c8, c9, c10, shr, anr, w1, w2]
  repeat refine WPo_ob ?_
  refine (radd_ev n9 n10 l9 l10 _ _ h10 (o9.ext (x10)) (o10.ext (Ext.refl _)) d9 d10 (by omega) (by omega)).mono ?_
  rintro ⟨v, h11⟩ ⟨n11, l11, s11, rfl, o11, d11, e11, k11, x11⟩
  simp only at o11 x11
  try unfold bigV
  have z11 := z10.trans x11
  have c11 := c4; rw [← z11.old _ hn4] at c11
  obtain ⟨p11, q11, rfl⟩ := o11.val
  simp (maxSteps := 1000000) (disch := first | decide | omega | (simp only [go_sem]; first | done | omega)) only [go_sem, Int.reduceToNat, Nat.reduceMul, Nat.reduceAdd, Nat.reduceSub, ↓EU_region, ↓EU_draw, c4, c5, c6, c7, c8, c9, c10, c11, shr, anr, w1, w2]
  repeat refine WPo_ob ?_
  refine (radd_ev n7 n11 l7 l11 _ _ h11 (o7.ext ((((x8).trans x9).trans x10).trans x11)) (o11.ext (Ext.refl _)) d7 d11 (by omega) (by omega)).mono ?_
  rintro ⟨v, h12⟩ ⟨n12, l12, s12, rfl, o12, d12, e12, k12, x12⟩
  simp only at o12 x12
  try unfold bigV
  have z12 := z11.trans x12
  have c12 := c4; rw [← z12.old _ hn4] at c12
  obtain ⟨p12, q12, rfl⟩ := o12.val
  simp (maxSteps := 1000000) (disch := first | decide | omega | (simp only [go_sem]; first | done | omega)) only [go_sem, Int.reduceToNat, Nat.reduceMul, Nat.reduceAdd, Nat.reduceSub, ↓EU_region, ↓EU_draw, c4, c5, c6, c7, c8, c9, c10, c11, c12, shr, anr, w1, w2]
  have hvb : veq (.bool n3) (.bool n3) = true := by cases n3 <;> rfl
  have hvs := o4.veq
  have hvl : veqL [.bool n3, .slice p3 l3.length q3] [.bool n3, .slice p3 l3.length q3] = true := by
    rw [veqL_c _ _ _ _ (by simp) (by simp), hvb, veqL_c _ _ _ _ (by simp) (by simp), hvs, veqL_n]; rfl
  simp (maxSteps := 1000000) (disch := first | decide | omega | (simp only [go_sem]; first | done | omega)) only [go_sem, Int.reduceToNat, Nat.reduceMul, Nat.reduceAdd, Nat.reduceSub, ↓EU_region, ↓EU_draw, c4, c5, c6, c7, c8, c9, c10, c11, c12, hvl]
  have x13 : Ext h4 (h12.push (.cells [.bool n12, .slice p12 l12.length q12] 0)) := z12.push _
  have o13 := o12.ext ((Ext.refl h12).push (.cells [.bool n12, .slice p12 l12.length q12] 0))
  have c13 : (h12.push (.cells [.bool n12, .slice p12 l12.length q12] 0)).get h12.next = .cells [.bool n12, .slice p12 l12.length q12] 0 := get_push_new _ _
  have hn13 : h12.next < (h12.push (.cells [.bool n12, .slice p12 l12.length q12] 0)).next := by rw [next_push]; omega
  rw [EU_bad _ _ rfl, EC_tab (tab := [(false, (some (0, 3))), (false, none), (true, none), (false, none), (true, none), (true, none), (true, none), (false, none)]) (by kernel_rfl)]
  simp (maxSteps := 1000000) (disch := first | decide | omega | (simp only [go_sem]; first | done | omega)) only [go_sem, Int.reduceToNat, Nat.reduceMul, Nat.reduceAdd, Nat.reduceSub, ↓EU_region, ↓EU_draw, c13]
  generalize h12.push (.cells [.bool n12, .slice p12 l12.length q12] 0) = h13 at *
  have e15 : sv n12 l12 = P := by
    rw [e12, e11]
    have s6 : sv n6 l6 = sv n5 l5 * sv n3 l3 := by rw [← en6]; exact sv_mul v6
    have s7 : sv n7 l7 = sv n6 l6 * sv n3 l3 := by rw [← en7]; exact sv_mul v7
    have s9 : sv n9 l9 = sv n8 l8 * sv n3 l3 := by rw [← en9]; exact sv_mul v9
    rw [s7, s6, s9, e5, e3, e8, e10]
    omega
  repeat refine WPo_ob ?_
  refine (rof_ev a h13 ha).mono ?_
  rintro ⟨v, h14⟩ ⟨n14, l14, s14, rfl, o14, d14, k14, e14, x14⟩
  simp only at o14 x14
  try unfold bigV
  have c14 := c13; rw [← x14.old _ hn13] at c14
  obtain ⟨p14, q14, rfl⟩ := o14.val
  simp (maxSteps := 1000000) (disch := first | decide | omega | (simp only [go_sem]; first | done | omega)) only [go_sem, Int.reduceToNat, Nat.reduceMul, Nat.reduceAdd, Nat.reduceSub, ↓EU_region, ↓EU_draw, c13, c14]
  repeat refine WPo_ob ?_
  refine (rof_ev b h14 hb).mono ?_
  rintro ⟨v, h15⟩ ⟨n15, l15, s15, rfl, o15, d15, k15, e15b, x15⟩
  simp only at o15 x15
  try unfold bigV
  have c15 := c13; rw [← (x14.trans x15).old _ hn13] at c15
  obtain ⟨p15, q15, rfl⟩ := o15.val
  simp (maxSteps := 1000000) (disch := first | decide | omega | (simp only [go_sem]; first | done | omega)) only [go_sem, Int.reduceToNat, Nat.reduceMul, Nat.reduceAdd, Nat.reduceSub, ↓EU_region, ↓EU_draw, c13, c14, c15]
  repeat refine WPo_ob ?_
  refine (rmul_ev n14 n15 l14 l15 _ _ h15 (o14.ext x15) o15 d14 d15 (by omega) (by omega)).mono ?_
  obtain ⟨n16, en16⟩ : ∃ z, (n14 != n15) = z := ⟨_, rfl⟩
  rw [en16]
  rintro ⟨v, h16⟩ ⟨l16, s16, rfl, o16, d16, v16, k16, x16⟩
  simp only at o16 x16
  try unfold bigV
  have c16 := c13; rw [← ((x14.trans x15).trans x16).old _ hn13] at c16
  obtain ⟨p16, q16, rfl⟩ := o16.val
  have s16 : sv n16 l16 = P := by rw [← en16, ← eP, ← e14, ← e15b]; exact sv_mul v16
  simp (maxSteps := 1000000) (disch := first | decide | omega | (simp only [go_sem]; first | done | omega)) only [go_sem, Int.reduceToNat, Nat.reduceMul, Nat.reduceAdd, Nat.reduceSub, ↓EU_region, ↓EU_draw, c13, c14, c15, c16]
  repeat refine WPo_ob ?_
  have hcmp := rcmp_ev n12 n16 l12 l16 _ _ h16 (o13.ext ((x14.trans x15).trans x16)) o16 d12 d16 (by omega) (by omega)
  rw [e15, s16] at hcmp
  refine hcmp.bind fun h17 x17 => ?_
  have c17 := c13; rw [← (((x14.trans x15).trans x16).trans x17).old _ hn13] at c17
  have hvb2 : veq (.bool n12) (.bool n12) = true := by cases n12 <;> rfl
  have hvs2 := o13.veq
  have hvl2 : veqL [.bool n12, .slice p12 l12.length q12] [.bool n12, .slice p12 l12.length q12] = true := by
    rw [veqL_c _ _ _ _ (by simp) (by simp), hvb2, veqL_c _ _ _ _ (by simp) (by simp), hvs2, veqL_n]; rfl
  have hd0 : decide (sgnC P P = 0) = true := decide_eq_true (by unfold sgnC; rw [if_neg (by omega), if_neg (by omega)])
  have hmd := fun h => muldiv_ev a b c h ha hb hc
  simp (maxSteps := 1000000) (disch := first | decide | omega | (simp only [go_sem]; first | done | omega)) only [go_sem, Int.reduceToNat, Nat.reduceMul, Nat.reduceAdd, Nat.reduceSub, ↓EU_region, ↓EU_draw, c13, c14, c15, c16, c17, hvl2, hd0, hmd]
  cases hok : (mdR a b c).2 with
  | false =>
    by_cases c1 : c = 0
    · have dc : decide (c = 0) = true := decide_eq_true c1
      simp (maxSteps := 1000000) (disch := first | decide | omega | (simp only [go_sem]; first | done | omega)) only [go_sem, Int.reduceToNat, Nat.reduceMul, Nat.reduceAdd, Nat.reduceSub, ↓EU_region, ↓EU_draw, hok, dc]
    · have dc : decide (c = 0) = false := decide_eq_false c1
      simp (maxSteps := 1000000) (disch := first | decide | omega | (simp only [go_sem]; first | done | omega)) only [go_sem, Int.reduceToNat, Nat.reduceMul, Nat.reduceAdd, Nat.reduceSub, ↓EU_region, ↓EU_draw, hok, dc]
  | true =>
    by_cases c1 : c < 1
    · have dc : decide (c < 1) = true := decide_eq_true c1
      have dc0 : decide (c = 0) = false := decide_eq_false (by
        intro q
        subst q
        unfold mdR at hok
        rw [if_pos rfl] at hok
        cases hok)
      simp (maxSteps := 1000000) (disch := first | decide | omega | (simp only [go_sem]; first | done | omega)) only [go_sem, Int.reduceToNat, Nat.reduceMul, Nat.reduceAdd, Nat.reduceSub, ↓EU_region, ↓EU_draw, hok, dc, dc0]
    · have dc : decide (c < 1) = false := decide_eq_false c1
      obtain ⟨f1, f2, f3, f4⟩ := mdR_floor ha hb ⟨by omega, hc.2⟩ hok
      rw [eP] at f1 f2
      generalize (mdR a b c).1 = vq at *
      have hcm := fun h => cmpMul_ev vq c a b h ⟨f3, f4⟩ hc ha hb
      rw [eP] at hcm
      simp (maxSteps := 1000000) (disch := first | decide | omega | (simp only [go_sem]; first | done | omega)) only [go_sem, Int.reduceToNat, Nat.reduceMul, Nat.reduceAdd, Nat.reduceSub, ↓EU_region, ↓EU_draw, hok, dc]
      repeat refine WPo_ob ?_
      refine (hcm _).bind fun h18 x18 => ?_
      have dl : decide (sgnC (vq * c) P ≤ 0) = true := decide_eq_true (by unfold sgnC; split <;> (try split) <;> omega)
      by_cases cm : vq = 9223372036854775807
      · have dm : decide (vq = 9223372036854775807) = true := decide_eq_true cm
        simp (maxSteps := 1000000) (disch := first | decide | omega | (simp only [go_sem]; first | done | omega)) only [go_sem, Int.reduceToNat, Nat.reduceMul, Nat.reduceAdd, Nat.reduceSub, ↓EU_region, ↓EU_draw, dl, dm]
      · have dm : decide (vq = 9223372036854775807) = false := decide_eq_false cm
        have wv : wrapF .i64 (vq + 1) = vq + 1 := wrap64 (by omega)
        have hcm2 := fun h => cmpMul_ev (vq + 1) c a b h ⟨by omega, by omega⟩ hc ha hb
        rw [eP] at hcm2
        simp (maxSteps := 1000000) (disch := first | decide | omega | (simp only [go_sem]; first | done | omega)) only [go_sem, Int.reduceToNat, Nat.reduceMul, Nat.reduceAdd, Nat.reduceSub, ↓EU_region, ↓EU_draw, dl, dm, wv]
        repeat refine WPo_ob ?_
        refine (hcm2 _).bind fun h19 x19 => ?_
        have dg : decide (0 < sgnC ((vq + 1) * c) P) = true := decide_eq_true (by unfold sgnC; rw [if_neg (by omega), if_pos (by omega)]; decide)
        simp (maxSteps := 1000000) (disch := first | decide | omega | (simp only [go_sem]; first | done | omega)) only [go_sem, Int.reduceToNat, Nat.reduceMul, Nat.reduceAdd, Nat.reduceSub, ↓EU_region, ↓EU_draw, dg]
end Go.Proofs.Ythaacidfpcljfaa.EV
