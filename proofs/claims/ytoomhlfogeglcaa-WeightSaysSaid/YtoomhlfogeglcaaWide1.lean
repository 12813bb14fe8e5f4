/- Wide numbers: bits.Mul64, bits.Len64, bits.LeadingZeros64, whole.size. No condition. -/
import Derived.Test.YtoomhlfogeglcaaO0
import Derived.Test.YtoomhlfogeglcaaQuo
namespace Go.Proofs.Ytoomhlfogeglcaa.EV
open Go Go.Proofs
set_option linter.unusedVariables false
set_option linter.unusedSimpArgs false
set_option maxRecDepth 100000
set_option pp.deepTerms false
set_option pp.deepTerms.threshold 20
theorem mul_hi0 {a b c d t w : Int} (p11 : 0 ≤ a ∧ a ≤ 18446744065119617025) (p10 : 0 ≤ b ∧ b ≤ 18446744065119617025) (p01 : 0 ≤ c ∧ c ≤ 18446744065119617025) (p00 : 0 ≤ d ∧ d ≤ 18446744065119617025)
    (ht : b + d / 4294967296 = t) (hw : t % 4294967296 + c = w) :
    (0 ≤ t ∧ t < 18446744073709551616) ∧ (0 ≤ w ∧ w < 18446744073709551616) ∧ a + t / 4294967296 + w / 4294967296 = (a * 18446744073709551616 + (b + c) * 4294967296 + d) / 18446744073709551616 ∧ 0 ≤ a + t / 4294967296 ∧ a + t / 4294967296 + w / 4294967296 < 18446744073709551616 := by
  subst hw
  subst ht
  refine ⟨?_, ?_, ?_, ?_, ?_⟩ <;> omega
theorem mul_parts {x y : Int} : x * y = (x / 4294967296) * (y / 4294967296) * 18446744073709551616 + ((x / 4294967296) * (y % 4294967296) + (x % 4294967296) * (y / 4294967296)) * 4294967296 + (x % 4294967296) * (y % 4294967296) := by
  have hx := Int.mul_ediv_add_emod x 4294967296
  have hy := Int.mul_ediv_add_emod y 4294967296
  generalize x / 4294967296 = x1 at *
  generalize x % 4294967296 = x0 at *
  generalize y / 4294967296 = y1 at *
  generalize y % 4294967296 = y0 at *
  subst hx
  subst hy
  grind
theorem mul_range {a b : Int} (ha : 0 ≤ a ∧ a ≤ 4294967295) (hb : 0 ≤ b ∧ b ≤ 4294967295) : 0 ≤ a * b ∧ a * b ≤ 18446744065119617025 :=
  ⟨Int.mul_nonneg ha.1 hb.1, Int.mul_le_mul ha.2 hb.2 hb.1 (by decide)⟩
theorem wU64 {n : Int} (h : 0 ≤ n ∧ n < 18446744073709551616) : wrapF .u64 n = n := wrapU rfl h
theorem wU64_mod (n : Int) : wrapF .u64 n = n % 18446744073709551616 := by
  unfold wrapF
  simp only [show sgnK .u64 = false from rfl, Bool.false_and, cnd_false]; rfl
theorem shr32 (P : Program) (t : TypeId) (x y : Operand) (a : Int) : evBin P .shr t x y (.int .u64 a) (.int .u64 32) = some (.int .u64 (a / 4294967296)) :=
  bin_shr64 P t x y (k := .u64) (j := .u64) (by decide)
theorem and32 (P : Program) (t : TypeId) (x y : Operand) {a : Int} (h : 0 ≤ a ∧ a < 18446744073709551616) : evBin P .and t x y (.int .u64 a) (.int .u64 4294967295) = some (.int .u64 (a % 4294967296)) := by
  rw [bin_andI P t x y (k := .u64) rfl h (by decide)]
  have e : a.toNat &&& (4294967295 : Int).toNat = a.toNat % 4294967296 := Nat.and_two_pow_sub_one_eq_mod a.toNat 32
  rw [e]
  congr 2
  omega
theorem mul64_ev (a b : Int) (h : Heap) (ha : 0 ≤ a ∧ a < 18446744073709551616) (hb : 0 ≤ b ∧ b < 18446744073709551616) :
    EF Try.prog O0 30 [.int .u64 a, .int .u64 b] h = some (.tuple ⟨[.int .u64 (a * b / 18446744073709551616), .int .u64 (a * b % 18446744073709551616)]⟩, h) := by
  have : WPo (EF Try.prog O0 30 [.int .u64 a, .int .u64 b] h) fun q => q = (.tuple ⟨[.int .u64 (a * b / 18446744073709551616), .int .u64 (a * b % 18446744073709551616)]⟩, h) := by
    have e := @mul_parts a b
    have h0 : 0 ≤ a % 4294967296 ∧ a % 4294967296 ≤ 4294967295 := by omega
    have h1 : 0 ≤ a / 4294967296 ∧ a / 4294967296 ≤ 4294967295 := by omega
    have k0 : 0 ≤ b % 4294967296 ∧ b % 4294967296 ≤ 4294967295 := by omega
    have k1 : 0 ≤ b / 4294967296 ∧ b / 4294967296 ≤ 4294967295 := by omega
    have p00 := mul_range h0 k0
    have p01 := mul_range h0 k1
    have p10 := mul_range h1 k0
    have p11 := mul_range h1 k1
    rw [EF_body (O := O0) (by kernel_rfl) Try.func30 rfl (rs := [.tmp 4, .tmp 5]) rfl (bad := []) (by kernel_rfl) _ _ (m := 51) rfl]
    have aa := fun t x y => and32 Try.prog t x y ha
    have ab := fun t x y => and32 Try.prog t x y hb
    have wab := wU64_mod (a * b)
    obtain ⟨z11, e11⟩ : ∃ z, a / 4294967296 * (b / 4294967296) = z := ⟨_, rfl⟩
    obtain ⟨z10, e10⟩ : ∃ z, a / 4294967296 * (b % 4294967296) = z := ⟨_, rfl⟩
    obtain ⟨z01, e01⟩ : ∃ z, a % 4294967296 * (b / 4294967296) = z := ⟨_, rfl⟩
    obtain ⟨z00, e00⟩ : ∃ z, a % 4294967296 * (b % 4294967296) = z := ⟨_, rfl⟩
    rw [e11] at p11 e
    rw [e10] at p10 e
    rw [e01] at p01 e
    rw [e00] at p00 e
    have w00 := wU64 (n := z00) (by omega)
    have w01 := wU64 (n := z01) (by omega)
    have w10 := wU64 (n := z10) (by omega)
    have w11 := wU64 (n := z11) (by omega)
    obtain ⟨t, ht⟩ : ∃ t, z10 + z00 / 4294967296 = t := ⟨_, rfl⟩
    obtain ⟨w, hw⟩ : ∃ w, t % 4294967296 + z01 = w := ⟨_, rfl⟩
    obtain ⟨m1, m2, m3, m4, m5⟩ := mul_hi0 p11 p10 p01 p00 ht hw
    have wt := wU64 m1
    have ww := wU64 m2
    have at' := fun t' x y => and32 Try.prog t' x y m1
    have wm := wU64 (n := z11 + t / 4294967296) (by omega)
    have wn := wU64 (n := z11 + t / 4294967296 + w / 4294967296) (by omega)
    rw [← e] at m3
    rw [← m3]
    simp (maxSteps := 1000000) (disch := first | decide | omega | (simp only [go_sem]; first | done | omega)) only [go_sem, Int.reduceToNat, Nat.reduceMul, Nat.reduceAdd, Nat.reduceSub, ↓EU_region, ↓EU_draw, shr32, aa, ab, e00, e01, e10, e11, w00, w01, w10, w11, ht, wt, at', hw, ww, wm, wn, wab]
  obtain ⟨q, e, rfl⟩ := this
  exact e
noncomputable def absI (a : Int) : Int := if a < 0 then -a else a
theorem absI_range {a : Int} (h : -9223372036854775808 ≤ a ∧ a < 9223372036854775808) : 0 ≤ absI a ∧ absI a ≤ 9223372036854775808 := by
  unfold absI
  split <;> omega
theorem size_ev (a : Int) (h : Heap) (ha : -9223372036854775808 ≤ a ∧ a < 9223372036854775808) : EF Try.prog O0 31 [.int .i64 a] h = some (.int .u64 (absI a), h) := by
  have : WPo (EF Try.prog O0 31 [.int .i64 a] h) fun q => q = (.int .u64 (absI a), h) := by
    unfold absI
    rw [EF_body (O := O0) (by kernel_rfl) Try.func31 rfl (rs := [.tmp 2]) rfl (bad := []) (by kernel_rfl) _ _ (m := 10) rfl]
    by_cases q : a < 0
    · have hd : decide (a < 0) = true := decide_eq_true q
      rw [if_pos q]
      have hw : wrapF .u64 (0 - wrapF .u64 a) = -a := by rw [wU64_mod, wU64_mod]; omega
      simp (maxSteps := 1000000) (disch := first | decide | omega | (simp only [go_sem]; first | done | omega)) only [go_sem, Int.reduceToNat, Nat.reduceMul, Nat.reduceAdd, Nat.reduceSub, ↓EU_region, ↓EU_draw, hd, hw]
    · have hd : decide (a < 0) = false := decide_eq_false q
      rw [if_neg q]
      have hw : wrapF .u64 a = a := wU64 (by omega)
      simp (maxSteps := 1000000) (disch := first | decide | omega | (simp only [go_sem]; first | done | omega)) only [go_sem, Int.reduceToNat, Nat.reduceMul, Nat.reduceAdd, Nat.reduceSub, ↓EU_region, ↓EU_draw, hd, hw]
  obtain ⟨q, e, rfl⟩ := this
  exact e
end Go.Proofs.Ytoomhlfogeglcaa.EV
