/- Contracts: whole's wide numbers. No condition. -/
import Derived.Test.YthaacidfpcljfaaWide4
namespace Go.Proofs.Ythaacidfpcljfaa.EV
open Go Go.Proofs
set_option linter.unusedVariables false
set_option linter.unusedSimpArgs false
set_option maxRecDepth 100000
set_option pp.deepTerms false
set_option pp.deepTerms.threshold 20
noncomputable def wideL (n : Int) : List Value := [.int .i64 (n / 18446744073709551616), .int .u64 (n % 18446744073709551616)]
noncomputable def wideV (n : Int) : Value := .agg ⟨wideL n⟩
theorem wrap64_cong {a b : Int} (h : a % 18446744073709551616 = b % 18446744073709551616) : wrapF .i64 a = wrapF .i64 b := by
  have h1 : Int.emod a 18446744073709551616 = Int.emod b 18446744073709551616 := h
  show (fun m => cnd (sgnK .i64 && decide (halfK .i64 ≤ m)) (Int.sub m (fullK .i64)) m) (Int.emod a 18446744073709551616) = (fun m => cnd (sgnK .i64 && decide (halfK .i64 ≤ m)) (Int.sub m (fullK .i64)) m) (Int.emod b 18446744073709551616)
  rw [h1]
theorem wof_ev (a : Int) (h : Heap) (ha : -9223372036854775808 ≤ a ∧ a < 9223372036854775808) : Pu (EF Try.prog O0 28 [.int .i64 a] h) h (wideV a) := by
  unfold Pu wideV wideL
  rw [EF_body (O := O0) (by kernel_rfl) Try.func28 rfl (rs := [.cell 2 48]) rfl (bad := []) (by kernel_rfl) _ _ (m := 8) rfl]
  have hs := fun t x y => bin_shr64 Try.prog t x y (k := .i64) (j := .u64) (a := a) (b := 63) (by decide)
  have hw := wU64_mod a
  simp (maxSteps := 1000000) (disch := first | decide | omega | (simp only [go_sem]; first | done | omega)) only [go_sem, Int.reduceToNat, Nat.reduceMul, Nat.reduceAdd, Nat.reduceSub, ↓EU_region, ↓EU_draw, hs, hw]
  refine ⟨?_, by repeat (first | exact Ext.refl _ | assumption | refine Ext.push ?_ _ | refine Ext.set ?_ _ _ (by first | omega | (simp only [next_push, next_set]; omega)))⟩
  have : a / 2 ^ 63 = a / 18446744073709551616 := by
    show a / 9223372036854775808 = _
    omega
  rw [this]
theorem add_wide (x y : Int) (h : Heap) (hr : -170141183460469231731687303715884105728 ≤ x + y ∧ x + y < 170141183460469231731687303715884105728) : EF Try.prog O0 27 [wideV x, wideV y] h = some (wideV (x + y), h) := by
  have := wadd_ev (x / 18446744073709551616) (x % 18446744073709551616) (y / 18446744073709551616) (y % 18446744073709551616) h (by omega)
  unfold wideV wideL
  rw [this, wrap64 (n := x / 18446744073709551616 + y / 18446744073709551616 + (x % 18446744073709551616 + y % 18446744073709551616) / 18446744073709551616) (by omega), show x / 18446744073709551616 + y / 18446744073709551616 + (x % 18446744073709551616 + y % 18446744073709551616) / 18446744073709551616 = (x + y) / 18446744073709551616 by omega, show (x % 18446744073709551616 + y % 18446744073709551616) % 18446744073709551616 = (x + y) % 18446744073709551616 by omega]
theorem xorM {a : Nat} (h : a < 18446744073709551616) : (18446744073709551615 : Nat) ^^^ a = 18446744073709551615 - a := by
  have h1 : (BitVec.allOnes 64 ^^^ BitVec.ofNat 64 a).toNat = 18446744073709551615 ^^^ a := by
    rw [BitVec.toNat_xor, BitVec.toNat_allOnes, BitVec.toNat_ofNat, Nat.mod_eq_of_lt h]
  rw [← h1, BitVec.allOnes_xor, BitVec.toNat_not, BitVec.toNat_ofNat, Nat.mod_eq_of_lt h]
theorem un_xor {h : Heap} {a : Int} (ha : 0 ≤ a ∧ a < 18446744073709551616) : UN Try.prog h .xor (.int .u64 a) = some (.int .u64 (18446744073709551615 - a), h) := by
  rw [UN_xorI (k := .u64) rfl ha]
  have e : szK .u64 - 1 = 18446744073709551615 := rfl
  rw [e, xorM (by omega)]
  congr 4
  omega
theorem wminus_ev (n : Int) (h : Heap) (hr : -170141183460469231731687303715884105728 < n ∧ n < 170141183460469231731687303715884105728) : Pu (EF Try.prog O0 30 [wideV n] h) h (wideV (-n)) := by
  unfold Pu
  have had := fun (h : Heap) => add_wide (-n - 1) 1 h (by omega)
  rw [show -n - 1 + 1 = -n by omega] at had
  have e1 : (-n - 1) / 18446744073709551616 = -(n / 18446744073709551616) - 1 := by omega
  have e2 : (-n - 1) % 18446744073709551616 = 18446744073709551615 - n % 18446744073709551616 := by omega
  unfold wideV wideL at had
  unfold wideV wideL
  rw [e1, e2, show (1 : Int) / 18446744073709551616 = 0 from rfl, show (1 : Int) % 18446744073709551616 = 1 from rfl] at had
  rw [EF_body (O := O0) (by kernel_rfl) Try.func30 rfl (rs := [.cell 2 48]) rfl (bad := []) (by kernel_rfl) _ _ (m := 14) rfl]
  have hw1 := wU64_mod (n / 18446744073709551616)
  have hx1 := fun h => un_xor (h := h) (a := n / 18446744073709551616 % 18446744073709551616) (by omega)
  have hx2 := fun h => un_xor (h := h) (a := n % 18446744073709551616) (by omega)
  have hw2 : wrapF .i64 (18446744073709551615 - n / 18446744073709551616 % 18446744073709551616) = -(n / 18446744073709551616) - 1 := by
    by_cases q : 0 ≤ n / 18446744073709551616
    · have e : wrapF .i64 (18446744073709551615 - n / 18446744073709551616 % 18446744073709551616) = wrapF .i64 (-(n / 18446744073709551616) - 1) := wrap64_cong (by omega)
      rw [e, wrap64 (by omega)]
    · have e : wrapF .i64 (18446744073709551615 - n / 18446744073709551616 % 18446744073709551616) = wrapF .i64 (-(n / 18446744073709551616) - 1) := wrap64_cong (by omega)
      rw [e, wrap64 (by omega)]
  simp (maxSteps := 1000000) (disch := first | decide | omega | (simp only [go_sem]; first | done | omega)) only [go_sem, Int.reduceToNat, Nat.reduceMul, Nat.reduceAdd, Nat.reduceSub, ↓EU_region, ↓EU_draw, hw1, hx1, hx2, hw2, had]
  exact ⟨trivial, by repeat (first | exact Ext.refl _ | assumption | refine Ext.push ?_ _ | refine Ext.set ?_ _ _ (by first | omega | (simp only [next_push, next_set]; omega)))⟩
theorem absI_mul {a b : Int} : a * b = if (decide (a < 0) != decide (b < 0)) then -(absI a * absI b) else absI a * absI b := by
  unfold absI
  by_cases ha : a < 0 <;> by_cases hb : b < 0 <;> simp [ha, hb, Int.neg_mul, Int.mul_neg]
theorem wmul_ev (a b : Int) (h : Heap) (ha : -9223372036854775808 ≤ a ∧ a < 9223372036854775808) (hb : -9223372036854775808 ≤ b ∧ b < 9223372036854775808) : Pu (EF Try.prog O0 31 [.int .i64 a, .int .i64 b] h) h (wideV (a * b)) := by
  unfold Pu
  rw [EF_body (O := O0) (by kernel_rfl) Try.func31 rfl (rs := [.cell 4 48]) rfl (bad := []) (by kernel_rfl) _ _ (m := 28) rfl]
  have za := fun h => size_ev a h ha
  have zb := fun h => size_ev b h hb
  have ra := absI_range ha
  have rb := absI_range hb
  have zm := fun h => mul64_ev (absI a) (absI b) h (by omega) (by omega)
  have hP : 0 ≤ absI a * absI b := Int.mul_nonneg ra.1 rb.1
  have hPu : absI a * absI b ≤ 9223372036854775808 * 9223372036854775808 := Int.mul_le_mul ra.2 rb.2 rb.1 (by decide)
  rw [@absI_mul a b]
  generalize absI a = aa at *
  generalize absI b = bb at *
  generalize aa * bb = P at *
  have hw : wrapF .i64 (P / 18446744073709551616) = P / 18446744073709551616 := wrap64 (by omega)
  cases hn : (decide (a < 0) != decide (b < 0)) with
  | false =>
    rw [if_neg (by decide)]
    simp (maxSteps := 1000000) (disch := first | decide | omega | (simp only [go_sem]; first | done | omega)) only [go_sem, Int.reduceToNat, Nat.reduceMul, Nat.reduceAdd, Nat.reduceSub, ↓EU_region, ↓EU_draw, za, zb, zm, hw, hn]
    exact ⟨rfl, by repeat (first | exact Ext.refl _ | assumption | refine Ext.push ?_ _ | refine Ext.set ?_ _ _ (by first | omega | (simp only [next_push, next_set]; omega)))⟩
  | true =>
    rw [if_pos rfl]
    have hm := fun h' => wminus_ev P h' (by omega)
    unfold wideV wideL at hm
    unfold wideV wideL
    simp (maxSteps := 1000000) (disch := first | decide | omega | (simp only [go_sem]; first | done | omega)) only [go_sem, Int.reduceToNat, Nat.reduceMul, Nat.reduceAdd, Nat.reduceSub, ↓EU_region, ↓EU_draw, za, zb, zm, hw, hn]
    repeat refine WPo_ob ?_
    refine (hm _).bind fun h1 x1 => ?_
    obtain ⟨h0, hh0⟩ : ∃ z, ((h.push (.cells [.int .i64 0, .int .u64 0] 0)).push (.cells [.int .i64 0, .int .u64 0] 0)).set (h.next + 1) (.cells [.int .i64 (P / 18446744073709551616), .int .u64 (P % 18446744073709551616)] 0) = z := ⟨_, rfl⟩
    rw [hh0] at x1
    have c7 : h0.get (h.next + 1) = .cells [.int .i64 (P / 18446744073709551616), .int .u64 (P % 18446744073709551616)] 0 := by rw [← hh0]; simp (maxSteps := 1000000) (disch := first | decide | omega | (simp only [go_sem]; first | done | omega)) only [go_sem, Int.reduceToNat, Nat.reduceMul, Nat.reduceAdd, Nat.reduceSub, ↓EU_region, ↓EU_draw]
    have c4 : h0.get h.next = .cells [.int .i64 0, .int .u64 0] 0 := by rw [← hh0]; simp (maxSteps := 1000000) (disch := first | decide | omega | (simp only [go_sem]; first | done | omega)) only [go_sem, Int.reduceToNat, Nat.reduceMul, Nat.reduceAdd, Nat.reduceSub, ↓EU_region, ↓EU_draw]
    have hn0 : h0.next = h.next + 2 := by rw [← hh0]; simp (maxSteps := 1000000) (disch := first | decide | omega | (simp only [go_sem]; first | done | omega)) only [go_sem, Int.reduceToNat, Nat.reduceMul, Nat.reduceAdd, Nat.reduceSub, ↓EU_region, ↓EU_draw]
    have hx0 : Ext h h0 := by rw [← hh0]; repeat (first | exact Ext.refl _ | assumption | refine Ext.push ?_ _ | refine Ext.set ?_ _ _ (by first | omega | (simp only [next_push, next_set]; omega)))
    have hn1 := x1.le
    rw [← x1.old _ (by omega)] at c7 c4
    simp (maxSteps := 1000000) (disch := first | decide | omega | (simp only [go_sem]; first | done | omega)) only [go_sem, Int.reduceToNat, Nat.reduceMul, Nat.reduceAdd, Nat.reduceSub, ↓EU_region, ↓EU_draw, c7, c4]
    refine ⟨trivial, ((hx0.trans x1).set _ _ (by omega)).set _ _ (by omega)⟩
theorem mul_range63 {a b : Int} (ha : -9223372036854775808 ≤ a ∧ a < 9223372036854775808) (hb : -9223372036854775808 ≤ b ∧ b < 9223372036854775808) : -85070591730234615865843651857942052864 ≤ a * b ∧ a * b ≤ 85070591730234615865843651857942052864 := by
  have ra := absI_range ha
  have rb := absI_range hb
  have hP : 0 ≤ absI a * absI b := Int.mul_nonneg ra.1 rb.1
  have hPu : absI a * absI b ≤ 9223372036854775808 * 9223372036854775808 := Int.mul_le_mul ra.2 rb.2 rb.1 (by decide)
  rw [@absI_mul a b]
  split <;> omega
theorem wide_ev (a b : Int) (h : Heap) (ha : -9223372036854775808 ≤ a ∧ a < 9223372036854775808) (hb : -9223372036854775808 ≤ b ∧ b < 9223372036854775808) : Pu (EF Try.prog O0 18 [.int .i64 a, .int .i64 b] h) h (.tuple ⟨wideL (a * b)⟩) := by
  have hm := wmul_ev a b h ha hb
  unfold Pu
  unfold wideV wideL at hm
  unfold wideL
  rw [EF_body (O := O0) (by kernel_rfl) Try.func18 rfl (rs := [.tmp 4, .tmp 5]) rfl (bad := []) (by kernel_rfl) _ _ (m := 14) rfl]
  simp (maxSteps := 1000000) (disch := first | decide | omega | (simp only [go_sem]; first | done | omega)) only [go_sem, Int.reduceToNat, Nat.reduceMul, Nat.reduceAdd, Nat.reduceSub, ↓EU_region, ↓EU_draw]
  repeat refine WPo_ob ?_
  refine hm.bind fun h1 x1 => ?_
  simp (maxSteps := 1000000) (disch := first | decide | omega | (simp only [go_sem]; first | done | omega)) only [go_sem, Int.reduceToNat, Nat.reduceMul, Nat.reduceAdd, Nat.reduceSub, ↓EU_region, ↓EU_draw]
  exact ⟨trivial, by repeat (first | exact Ext.refl _ | assumption | refine Ext.push ?_ _ | refine Ext.set ?_ _ _ (by first | omega | (simp only [next_push, next_set]; omega)))⟩
noncomputable def sgnC (x y : Int) : Int := if x < y then -1 else if y < x then 1 else 0
theorem cmpI_ev (a b : Int) (h : Heap) : EF Try.prog O0 44 [.int .i64 a, .int .i64 b] h = some (.int .i64 (sgnC a b), h) := by
  have : WPo (EF Try.prog O0 44 [.int .i64 a, .int .i64 b] h) fun q => q = (.int .i64 (sgnC a b), h) := by
    have hN : ∀ z, EF Try.prog O0 47 [.int .i64 z] h = some (.bool false, h) := fun z => by
      have : WPo (EF Try.prog O0 47 [.int .i64 z] h) fun q => q = (.bool false, h) := by
        rw [EF_body (O := O0) (by kernel_rfl) Try.func47 rfl (rs := [.tmp 2]) rfl (bad := []) (by kernel_rfl) _ _ (m := 6) rfl]
        have d : decide (z = z) = true := decide_eq_true rfl
        simp (maxSteps := 1000000) (disch := first | decide | omega | (simp only [go_sem]; first | done | omega)) only [go_sem, Int.reduceToNat, Nat.reduceMul, Nat.reduceAdd, Nat.reduceSub, ↓EU_region, ↓EU_draw, d]
      obtain ⟨q, e, rfl⟩ := this
      exact e
    unfold sgnC
    rw [EF_body (O := O0) (by kernel_rfl) Try.func44 rfl (rs := [.tmp 4]) rfl (bad := []) (by kernel_rfl) _ _ (m := 20) rfl]
    by_cases c1 : a < b
    · have d1 : decide (a < b) = true := decide_eq_true c1
      rw [if_pos c1]
      simp (maxSteps := 1000000) (disch := first | decide | omega | (simp only [go_sem]; first | done | omega)) only [go_sem, Int.reduceToNat, Nat.reduceMul, Nat.reduceAdd, Nat.reduceSub, ↓EU_region, ↓EU_draw, hN, d1]
    · have d1 : decide (a < b) = false := decide_eq_false c1
      rw [if_neg c1]
      by_cases c2 : b < a
      · have d2 : decide (b < a) = true := decide_eq_true c2
        rw [if_pos c2]
        simp (maxSteps := 1000000) (disch := first | decide | omega | (simp only [go_sem]; first | done | omega)) only [go_sem, Int.reduceToNat, Nat.reduceMul, Nat.reduceAdd, Nat.reduceSub, ↓EU_region, ↓EU_draw, hN, d1, d2]
      · have d2 : decide (b < a) = false := decide_eq_false c2
        rw [if_neg c2]
        simp (maxSteps := 1000000) (disch := first | decide | omega | (simp only [go_sem]; first | done | omega)) only [go_sem, Int.reduceToNat, Nat.reduceMul, Nat.reduceAdd, Nat.reduceSub, ↓EU_region, ↓EU_draw, hN, d1, d2]
  obtain ⟨q, e, rfl⟩ := this
  exact e
theorem cmpU_ev (a b : Int) (h : Heap) : EF Try.prog O0 45 [.int .u64 a, .int .u64 b] h = some (.int .i64 (sgnC a b), h) := by
  have : WPo (EF Try.prog O0 45 [.int .u64 a, .int .u64 b] h) fun q => q = (.int .i64 (sgnC a b), h) := by
    have hN : ∀ z, EF Try.prog O0 48 [.int .u64 z] h = some (.bool false, h) := fun z => by
      have : WPo (EF Try.prog O0 48 [.int .u64 z] h) fun q => q = (.bool false, h) := by
        rw [EF_body (O := O0) (by kernel_rfl) Try.func48 rfl (rs := [.tmp 2]) rfl (bad := []) (by kernel_rfl) _ _ (m := 6) rfl]
        have d : decide (z = z) = true := decide_eq_true rfl
        simp (maxSteps := 1000000) (disch := first | decide | omega | (simp only [go_sem]; first | done | omega)) only [go_sem, Int.reduceToNat, Nat.reduceMul, Nat.reduceAdd, Nat.reduceSub, ↓EU_region, ↓EU_draw, d]
      obtain ⟨q, e, rfl⟩ := this
      exact e
    unfold sgnC
    rw [EF_body (O := O0) (by kernel_rfl) Try.func45 rfl (rs := [.tmp 4]) rfl (bad := []) (by kernel_rfl) _ _ (m := 20) rfl]
    by_cases c1 : a < b
    · have d1 : decide (a < b) = true := decide_eq_true c1
      rw [if_pos c1]
      simp (maxSteps := 1000000) (disch := first | decide | omega | (simp only [go_sem]; first | done | omega)) only [go_sem, Int.reduceToNat, Nat.reduceMul, Nat.reduceAdd, Nat.reduceSub, ↓EU_region, ↓EU_draw, hN, d1]
    · have d1 : decide (a < b) = false := decide_eq_false c1
      rw [if_neg c1]
      by_cases c2 : b < a
      · have d2 : decide (b < a) = true := decide_eq_true c2
        rw [if_pos c2]
        simp (maxSteps := 1000000) (disch := first | decide | omega | (simp only [go_sem]; first | done | omega)) only [go_sem, Int.reduceToNat, Nat.reduceMul, Nat.reduceAdd, Nat.reduceSub, ↓EU_region, ↓EU_draw, hN, d1, d2]
      · have d2 : decide (b < a) = false := decide_eq_false c2
        rw [if_neg c2]
        simp (maxSteps := 1000000) (disch := first | decide | omega | (simp only [go_sem]; first | done | omega)) only [go_sem, Int.reduceToNat, Nat.reduceMul, Nat.reduceAdd, Nat.reduceSub, ↓EU_region, ↓EU_draw, hN, d1, d2]
  obtain ⟨q, e, rfl⟩ := this
  exact e
theorem sgnC_wide (x y : Int) : (if sgnC (x / 18446744073709551616) (y / 18446744073709551616) = 0 then sgnC (x % 18446744073709551616) (y % 18446744073709551616) else sgnC (x / 18446744073709551616) (y / 18446744073709551616)) = sgnC x y := by
  unfold sgnC
  split <;> split <;> (try split) <;> (try split) <;> (try split) <;> omega
theorem wcmp_ev (x y : Int) (h : Heap) : Pu (EF Try.prog O0 35 [wideV x, wideV y] h) h (.int .i64 (sgnC x y)) := by
  unfold Pu wideV wideL
  rw [← sgnC_wide x y]
  rw [EF_body (O := O0) (by kernel_rfl) Try.func35 rfl (rs := [.tmp 4]) rfl (bad := []) (by kernel_rfl) _ _ (m := 19) rfl]
  by_cases c : sgnC (x / 18446744073709551616) (y / 18446744073709551616) = 0
  · have d : decide (sgnC (x / 18446744073709551616) (y / 18446744073709551616) = 0) = true := decide_eq_true c
    rw [if_pos c]
    simp (maxSteps := 1000000) (disch := first | decide | omega | (simp only [go_sem]; first | done | omega)) only [go_sem, Int.reduceToNat, Nat.reduceMul, Nat.reduceAdd, Nat.reduceSub, ↓EU_region, ↓EU_draw, cmpI_ev, cmpU_ev, d]
    exact ⟨trivial, by repeat (first | exact Ext.refl _ | assumption | refine Ext.push ?_ _ | refine Ext.set ?_ _ _ (by first | omega | (simp only [next_push, next_set]; omega)))⟩
  · have d : decide (sgnC (x / 18446744073709551616) (y / 18446744073709551616) = 0) = false := decide_eq_false c
    rw [if_neg c]
    simp (maxSteps := 1000000) (disch := first | decide | omega | (simp only [go_sem]; first | done | omega)) only [go_sem, Int.reduceToNat, Nat.reduceMul, Nat.reduceAdd, Nat.reduceSub, ↓EU_region, ↓EU_draw, cmpI_ev, cmpU_ev, d]
    exact ⟨trivial, by repeat (first | exact Ext.refl _ | assumption | refine Ext.push ?_ _ | refine Ext.set ?_ _ _ (by first | omega | (simp only [next_push, next_set]; omega)))⟩
theorem cmpMul_ev (a b c d : Int) (h : Heap) (ha : -9223372036854775808 ≤ a ∧ a < 9223372036854775808) (hb : -9223372036854775808 ≤ b ∧ b < 9223372036854775808) (hc : -9223372036854775808 ≤ c ∧ c < 9223372036854775808) (hd : -9223372036854775808 ≤ d ∧ d < 9223372036854775808) :
    Pu (EF Try.prog O0 17 [.int .i64 a, .int .i64 b, .int .i64 c, .int .i64 d] h) h (.int .i64 (sgnC (a * b) (c * d))) := by
  unfold Pu
  rw [EF_body (O := O0) (by kernel_rfl) Try.func17 rfl (rs := [.tmp 8]) rfl (bad := []) (by kernel_rfl) _ _ (m := 16) rfl]
  simp (maxSteps := 1000000) (disch := first | decide | omega | (simp only [go_sem]; first | done | omega)) only [go_sem, Int.reduceToNat, Nat.reduceMul, Nat.reduceAdd, Nat.reduceSub, ↓EU_region, ↓EU_draw]
  repeat refine WPo_ob ?_
  refine (wmul_ev a b h ha hb).bind fun h1 x1 => ?_
  simp (maxSteps := 1000000) (disch := first | decide | omega | (simp only [go_sem]; first | done | omega)) only [go_sem, Int.reduceToNat, Nat.reduceMul, Nat.reduceAdd, Nat.reduceSub, ↓EU_region, ↓EU_draw]
  repeat refine WPo_ob ?_
  refine (wmul_ev c d h1 hc hd).bind fun h2 x2 => ?_
  simp (maxSteps := 1000000) (disch := first | decide | omega | (simp only [go_sem]; first | done | omega)) only [go_sem, Int.reduceToNat, Nat.reduceMul, Nat.reduceAdd, Nat.reduceSub, ↓EU_region, ↓EU_draw]
  repeat refine WPo_ob ?_
  refine (wcmp_ev (a * b) (c * d) h2).bind fun h3 x3 => ?_
  simp (maxSteps := 1000000) (disch := first | decide | omega | (simp only [go_sem]; first | done | omega)) only [go_sem, Int.reduceToNat, Nat.reduceMul, Nat.reduceAdd, Nat.reduceSub, ↓EU_region, ↓EU_draw]
  exact ⟨trivial, (x1.trans x2).trans x3⟩
theorem wsmall_ev (n : Int) (h : Heap) (hr : -170141183460469231731687303715884105728 ≤ n ∧ n < 170141183460469231731687303715884105728) : Pu (EF Try.prog O0 29 [wideV n] h) h (.tuple ⟨[.int .i64 (if -9223372036854775808 ≤ n ∧ n < 9223372036854775808 then n else 0), .bool (decide (-9223372036854775808 ≤ n ∧ n < 9223372036854775808))]⟩) := by
  unfold Pu wideV wideL
  rw [EF_body (O := O0) (by kernel_rfl) Try.func29 rfl (rs := [.tmp 2, .tmp 3]) rfl (bad := []) (by kernel_rfl) _ _ (m := 14) rfl]
  have hs := fun t x y => bin_shr64 Try.prog t x y (k := .i64) (j := .u64) (a := wrapF .i64 (n % 18446744073709551616)) (b := 63) (by decide)
  have e63 : (2 : Int) ^ (63 : Int).toNat = 9223372036854775808 := rfl
  rw [e63] at hs
  by_cases c : -9223372036854775808 ≤ n ∧ n < 9223372036854775808
  · have ew : wrapF .i64 (n % 18446744073709551616) = n := by
      rw [wrap64_cong (b := n) (by omega), wrap64 c]
    rw [ew] at hs
    have d : decide (n / 18446744073709551616 = n / 9223372036854775808) = true := decide_eq_true (by omega)
    rw [if_pos c, decide_eq_true c]
    simp (maxSteps := 1000000) (disch := first | decide | omega | (simp only [go_sem]; first | done | omega)) only [go_sem, Int.reduceToNat, Nat.reduceMul, Nat.reduceAdd, Nat.reduceSub, ↓EU_region, ↓EU_draw, hs, ew, d]
    exact ⟨trivial, by repeat (first | exact Ext.refl _ | assumption | refine Ext.push ?_ _ | refine Ext.set ?_ _ _ (by first | omega | (simp only [next_push, next_set]; omega)))⟩
  · have d : decide (n / 18446744073709551616 = wrapF .i64 (n % 18446744073709551616) / 9223372036854775808) = false := by
      refine decide_eq_false fun e => ?_
      by_cases q : n % 18446744073709551616 < 9223372036854775808
      · rw [wrap64 (by omega)] at e
        omega
      · have ew : wrapF .i64 (n % 18446744073709551616) = n % 18446744073709551616 - 18446744073709551616 := by
          rw [wrap64_cong (b := n % 18446744073709551616 - 18446744073709551616) (by omega), wrap64 (by omega)]
        rw [ew] at e
        omega
    rw [if_neg c, decide_eq_false c]
    simp (maxSteps := 1000000) (disch := first | decide | omega | (simp only [go_sem]; first | done | omega)) only [go_sem, Int.reduceToNat, Nat.reduceMul, Nat.reduceAdd, Nat.reduceSub, ↓EU_region, ↓EU_draw, hs, d]
    exact ⟨trivial, by repeat (first | exact Ext.refl _ | assumption | refine Ext.push ?_ _ | refine Ext.set ?_ _ _ (by first | omega | (simp only [next_push, next_set]; omega)))⟩
theorem wadd2_ev (a b : Int) (h : Heap) (ha : -9223372036854775808 ≤ a ∧ a < 9223372036854775808) (hb : -9223372036854775808 ≤ b ∧ b < 9223372036854775808) :
    Pu (EF Try.prog O0 13 [.int .i64 a, .int .i64 b] h) h (.tuple ⟨[.int .i64 (if -9223372036854775808 ≤ a + b ∧ a + b < 9223372036854775808 then a + b else 0), .bool (decide (-9223372036854775808 ≤ a + b ∧ a + b < 9223372036854775808))]⟩) := by
  unfold Pu
  rw [EF_body (O := O0) (by kernel_rfl) Try.func13 rfl (rs := [.tmp 4, .tmp 5]) rfl (bad := []) (by kernel_rfl) _ _ (m := 14) rfl]
  simp (maxSteps := 1000000) (disch := first | decide | omega | (simp only [go_sem]; first | done | omega)) only [go_sem, Int.reduceToNat, Nat.reduceMul, Nat.reduceAdd, Nat.reduceSub, ↓EU_region, ↓EU_draw]
  repeat refine WPo_ob ?_
  refine (wof_ev a h ha).bind fun h1 x1 => ?_
  simp (maxSteps := 1000000) (disch := first | decide | omega | (simp only [go_sem]; first | done | omega)) only [go_sem, Int.reduceToNat, Nat.reduceMul, Nat.reduceAdd, Nat.reduceSub, ↓EU_region, ↓EU_draw]
  repeat refine WPo_ob ?_
  refine (wof_ev b h1 hb).bind fun h2 x2 => ?_
  have had := fun h => add_wide a b h (by omega)
  simp (maxSteps := 1000000) (disch := first | decide | omega | (simp only [go_sem]; first | done | omega)) only [go_sem, Int.reduceToNat, Nat.reduceMul, Nat.reduceAdd, Nat.reduceSub, ↓EU_region, ↓EU_draw, had]
  repeat refine WPo_ob ?_
  refine (wsmall_ev (a + b) h2 (by omega)).bind fun h3 x3 => ?_
  simp (maxSteps := 1000000) (disch := first | decide | omega | (simp only [go_sem]; first | done | omega)) only [go_sem, Int.reduceToNat, Nat.reduceMul, Nat.reduceAdd, Nat.reduceSub, ↓EU_region, ↓EU_draw]
  exact ⟨trivial, (x1.trans x2).trans x3⟩
theorem awake_pu (h : Heap) : Pu (EF Try.prog O0 10 [] h) h (.bool true) := by
  unfold Pu
  have h1 := fun h => muldiv_ev (-7) 1 2 h (by decide) (by decide) (by decide)
  have e1 : mdR (-7) 1 2 = (-4, true) := by decide
  rw [e1] at h1
  rw [EF_body (O := O0) (by kernel_rfl) Try.func10 rfl (rs := [.tmp 0]) rfl (bad := []) (by kernel_rfl) _ _ (m := 25) rfl]
  simp (maxSteps := 1000000) (disch := first | decide | omega | (simp only [go_sem]; first | done | omega)) only [go_sem, Int.reduceToNat, Nat.reduceMul, Nat.reduceAdd, Nat.reduceSub, ↓EU_region, ↓EU_draw, dec_t, dec_f, h1]
  repeat refine WPo_ob ?_
  refine (wadd2_ev 2 3 h (by decide) (by decide)).bind fun h2 x2 => ?_
  simp (maxSteps := 1000000) (disch := first | decide | omega | (simp only [go_sem]; first | done | omega)) only [go_sem, Int.reduceToNat, Nat.reduceMul, Nat.reduceAdd, Nat.reduceSub, ↓EU_region, ↓EU_draw, dec_t, dec_f]
  exact ⟨trivial, x2⟩
end Go.Proofs.Ythaacidfpcljfaa.EV
