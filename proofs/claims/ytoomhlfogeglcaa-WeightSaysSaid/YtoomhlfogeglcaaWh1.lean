/- Contracts: whole's wide numbers. No condition. -/
import Derived.Test.YtoomhlfogeglcaaWide4
namespace Go.Proofs.Ytoomhlfogeglcaa.EV
open Go Go.Proofs
set_option linter.unusedVariables false
set_option linter.unusedSimpArgs false
set_option maxRecDepth 100000
set_option pp.deepTerms false
set_option pp.deepTerms.threshold 20
noncomputable def wideL (n : Int) : List Value := [.int .i64 (n / 18446744073709551616), .int .u64 (n % 18446744073709551616)]
noncomputable def wideV (n : Int) : Value := .agg ⟨wideL n⟩
theorem wrap64_cong {a b : Int} (h : a % 18446744073709551616 = b % 18446744073709551616) : wrapF .i64 a = wrapF .i64 b := by
  have h1 : Int.emod a 18446744073709551616 = Int.emod b 18446744073709551616 := h
  show (fun m => cnd (sgnK .i64 && decide (halfK .i64 ≤ m)) (Int.sub m (fullK .i64)) m) (Int.emod a 18446744073709551616) = (fun m => cnd (sgnK .i64 && decide (halfK .i64 ≤ m)) (Int.sub m (fullK .i64)) m) (Int.emod b 18446744073709551616)
  rw [h1]
theorem xorM {a : Nat} (h : a < 18446744073709551616) : (18446744073709551615 : Nat) ^^^ a = 18446744073709551615 - a := by
  have h1 : (BitVec.allOnes 64 ^^^ BitVec.ofNat 64 a).toNat = 18446744073709551615 ^^^ a := by
    rw [BitVec.toNat_xor, BitVec.toNat_allOnes, BitVec.toNat_ofNat, Nat.mod_eq_of_lt h]
  rw [← h1, BitVec.allOnes_xor, BitVec.toNat_not, BitVec.toNat_ofNat, Nat.mod_eq_of_lt h]
theorem un_xor {h : Heap} {a : Int} (ha : 0 ≤ a ∧ a < 18446744073709551616) : UN Try.prog h .xor (.int .u64 a) = some (.int .u64 (18446744073709551615 - a), h) := by
  rw [UN_xorI (k := .u64) rfl ha]
  have e : szK .u64 - 1 = 18446744073709551615 := rfl
  rw [e, xorM (by omega)]
  congr 4
  omega
theorem absI_mul {a b : Int} : a * b = if (decide (a < 0) != decide (b < 0)) then -(absI a * absI b) else absI a * absI b := by
  unfold absI
  by_cases ha : a < 0 <;> by_cases hb : b < 0 <;> simp [ha, hb, Int.neg_mul, Int.mul_neg]
theorem mul_range63 {a b : Int} (ha : -9223372036854775808 ≤ a ∧ a < 9223372036854775808) (hb : -9223372036854775808 ≤ b ∧ b < 9223372036854775808) : -85070591730234615865843651857942052864 ≤ a * b ∧ a * b ≤ 85070591730234615865843651857942052864 := by
  have ra := absI_range ha
  have rb := absI_range hb
  have hP : 0 ≤ absI a * absI b := Int.mul_nonneg ra.1 rb.1
  have hPu : absI a * absI b ≤ 9223372036854775808 * 9223372036854775808 := Int.mul_le_mul ra.2 rb.2 rb.1 (by decide)
  rw [@absI_mul a b]
  split <;> omega
noncomputable def sgnC (x y : Int) : Int := if x < y then -1 else if y < x then 1 else 0
theorem cmpI_ev (a b : Int) (h : Heap) : EF Try.prog O0 27 [.int .i64 a, .int .i64 b] h = some (.int .i64 (sgnC a b), h) := by
  have : WPo (EF Try.prog O0 27 [.int .i64 a, .int .i64 b] h) fun q => q = (.int .i64 (sgnC a b), h) := by
    have hN : ∀ z, EF Try.prog O0 34 [.int .i64 z] h = some (.bool false, h) := fun z => by
      have : WPo (EF Try.prog O0 34 [.int .i64 z] h) fun q => q = (.bool false, h) := by
        rw [EF_body (O := O0) (by kernel_rfl) Try.func34 rfl (rs := [.tmp 2]) rfl (bad := []) (by kernel_rfl) _ _ (m := 6) rfl]
        have d : decide (z = z) = true := decide_eq_true rfl
        simp (maxSteps := 1000000) (disch := first | decide | omega | (simp only [go_sem]; first | done | omega)) only [go_sem, Int.reduceToNat, Nat.reduceMul, Nat.reduceAdd, Nat.reduceSub, ↓EU_region, ↓EU_draw, d]
      obtain ⟨q, e, rfl⟩ := this
      exact e
    unfold sgnC
    rw [EF_body (O := O0) (by kernel_rfl) Try.func27 rfl (rs := [.tmp 4]) rfl (bad := []) (by kernel_rfl) _ _ (m := 20) rfl]
    by_cases c1 : a < b
    · have d1 : decide (a < b) = true := decide_eq_true c1
      rw [if_pos c1]
      simp (maxSteps := 1000000) (disch := first | decide | omega | (simp only [go_sem]; first | done | omega)) only [go_sem, Int.reduceToNat, Nat.reduceMul, Nat.reduceAdd, Nat.reduceSub, ↓EU_region, ↓EU_draw, hN, d1]
    · have d1 : decide (a < b) = false := decide_eq_false c1
      rw [if_neg c1]
      by_cases c2 : b < a
      · have d2 : decide (b < a) = true := decide_eq_true c2
        rw [if_pos c2]
        simp (maxSteps := 1000000) (disch := first | decide | omega | (simp only [go_sem]; first | done | omega)) only [go_sem, Int.reduceToNat, Nat.reduceMul, Nat.reduceAdd, Nat.reduceSub, ↓EU_region, ↓EU_draw, hN, d1, d2]
      · have d2 : decide (b < a) = false := decide_eq_false c2
        rw [if_neg c2]
        simp (maxSteps := 1000000) (disch := first | decide | omega | (simp only [go_sem]; first | done | omega)) only [go_sem, Int.reduceToNat, Nat.reduceMul, Nat.reduceAdd, Nat.reduceSub, ↓EU_region, ↓EU_draw, hN, d1, d2]
  obtain ⟨q, e, rfl⟩ := this
  exact e
theorem sgnC_wide (x y : Int) : (if sgnC (x / 18446744073709551616) (y / 18446744073709551616) = 0 then sgnC (x % 18446744073709551616) (y % 18446744073709551616) else sgnC (x / 18446744073709551616) (y / 18446744073709551616)) = sgnC x y := by
  unfold sgnC
  split <;> split <;> (try split) <;> (try split) <;> (try split) <;> omega
end Go.Proofs.Ytoomhlfogeglcaa.EV
