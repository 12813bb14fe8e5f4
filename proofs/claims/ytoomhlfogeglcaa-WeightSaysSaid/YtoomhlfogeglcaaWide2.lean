/- Wide numbers: bits.Len64, bits.LeadingZeros64. No condition. -/
import Derived.Test.YtoomhlfogeglcaaWide1
namespace Go.Proofs.Ytoomhlfogeglcaa.EV
open Go Go.Proofs
set_option linter.unusedVariables false
set_option linter.unusedSimpArgs false
set_option maxRecDepth 100000
set_option pp.deepTerms false
set_option pp.deepTerms.threshold 20
theorem shr16 (P : Program) (t : TypeId) (x y : Operand) (a : Int) : evBin P .shr t x y (.int .u64 a) (.int .u64 16) = some (.int .u64 (a / 65536)) :=
  bin_shr64 P t x y (k := .u64) (j := .u64) (by decide)
theorem shr8 (P : Program) (t : TypeId) (x y : Operand) (a : Int) : evBin P .shr t x y (.int .u64 a) (.int .u64 8) = some (.int .u64 (a / 256)) :=
  bin_shr64 P t x y (k := .u64) (j := .u64) (by decide)
theorem wU8 {n : Int} (h : 0 ≤ n ∧ n < 256) : wrapF .u8 n = n := wrapU rfl h
/-- how many bits: a table of the bytes -/
noncomputable def lenT (s : ByteArray) : Bool := (List.range 256).all fun i => match s.data.toList[i]? with
  | some b => decide (i = 0) || (decide (1 ≤ b.toNat) && (decide (b.toNat ≤ 8) && (decide (2 ^ (b.toNat - 1) ≤ i) && decide (i < 2 ^ b.toNat))))
  | none => false
theorem len_ix {h : Heap} {s : ByteArray} {i : Int} {Q : Value × Heap → Prop} (hT : lenT s = true) (hi : 0 < i ∧ i < 256) (k : ∀ b : Nat, 1 ≤ b → b ≤ 8 → (2 : Int) ^ (b - 1) ≤ i → i < 2 ^ b → Q (.int .u8 b, h)) : WPo (evIxStr h s i .string) Q := by
  have h1 := List.all_eq_true.1 hT i.toNat (List.mem_range.2 (by omega))
  unfold evIxStr
  rw [decide_eq_true (by omega : 0 ≤ i)]
  cases hb : s.data.toList[i.toNat]? with
  | none => rw [hb] at h1; cases h1
  | some b =>
    rw [hb] at h1
    simp only [Bool.or_eq_true, Bool.and_eq_true, decide_eq_true_eq] at h1
    rcases h1 with h1 | ⟨h2, h3, h4, h5⟩
    · omega
    · refine ⟨_, rfl, k b.toNat h2 h3 ?_ ?_⟩
      · have : ((2 ^ (b.toNat - 1) : Nat) : Int) ≤ (i.toNat : Int) := Int.ofNat_le.2 h4
        rw [Int.natCast_pow] at this
        have e : (i.toNat : Int) = i := Int.toNat_of_nonneg (by omega)
        rw [e] at this
        exact this
      · have : (i.toNat : Int) < ((2 ^ b.toNat : Nat) : Int) := Int.ofNat_lt.2 h5
        rw [Int.natCast_pow] at this
        have e : (i.toNat : Int) = i := Int.toNat_of_nonneg (by omega)
        rw [e] at this
        exact this
theorem len_fin {x v K : Int} {k b : Nat} (hK : K = 2 ^ k) (h1 : v * K ≤ x) (h2 : x < (v + 1) * K) (hb : 1 ≤ b) (h3 : (2 : Int) ^ (b - 1) ≤ v) (h4 : v < 2 ^ b) : (2 : Int) ^ (k + b - 1) ≤ x ∧ x < 2 ^ (k + b) := by
  have hp : (0 : Int) < 2 ^ k := Int.pow_pos (by decide)
  subst hK
  constructor
  · rw [show k + b - 1 = (b - 1) + k by omega, Int.pow_add]
    have := Int.mul_le_mul_of_nonneg_right h3 (Int.le_of_lt hp)
    omega
  · rw [show k + b = b + k by omega, Int.pow_add]
    have := Int.mul_le_mul_of_nonneg_right (show v + 1 ≤ 2 ^ b by omega) (Int.le_of_lt hp)
    omega
theorem len64_ev (x : Int) (h : Heap) (hx : 0 < x ∧ x < 18446744073709551616) :
    WPo (EF Try.prog O0 48 [.int .u64 x] h) fun q => ∃ n : Nat, q = (.int .i64 n, h) ∧ 1 ≤ n ∧ n ≤ 64 ∧ (2 : Int) ^ (n - 1) ≤ x ∧ x < 2 ^ n := by
  rw [EF_body (O := O0) (by kernel_rfl) Try.func48 rfl (rs := [.tmp 2]) rfl (bad := []) (by kernel_rfl) _ _ (m := 25) rfl]
  by_cases q1 : 4294967296 ≤ x
  · have d1 : decide (4294967296 ≤ x) = true := decide_eq_true q1
    by_cases q2 : 65536 ≤ x / 4294967296
    · have d2 : decide (65536 ≤ x / 4294967296) = true := decide_eq_true q2
      by_cases q3 : 256 ≤ x / 4294967296 / 65536
      · have d3 : decide (256 ≤ x / 4294967296 / 65536) = true := decide_eq_true q3
        have w8 : wrapF .u8 (x / 4294967296 / 65536 / 256) = x / 4294967296 / 65536 / 256 := wU8 (by omega)
        simp (maxSteps := 1000000) (disch := first | decide | omega | (simp only [go_sem]; first | done | omega)) only [go_sem, Int.reduceToNat, Nat.reduceMul, Nat.reduceAdd, Nat.reduceSub, ↓EU_region, ↓EU_draw, d1, d2, d3, shr32, shr16, shr8, w8, Int.reduceAdd]
        repeat refine WPo_ob ?_
        refine len_ix (by decide +kernel) (by omega) fun b h1 h2 h3 h4 => ?_
        have wb : wrapF .i64 (b : Int) = b := wrap64 (by omega)
        have wc : wrapF .i64 (56 + (b : Int)) = 56 + (b : Int) := wrap64 (by omega)
        simp (maxSteps := 1000000) (disch := first | decide | omega | (simp only [go_sem]; first | done | omega)) only [go_sem, Int.reduceToNat, Nat.reduceMul, Nat.reduceAdd, Nat.reduceSub, ↓EU_region, ↓EU_draw, wb, wc]
        have hf := len_fin (x := x) (v := x / 4294967296 / 65536 / 256) (K := 72057594037927936) (k := 56) (b := b) (by decide) (by omega) (by omega) h1 h3 h4
        exact ⟨56 + b, rfl, by omega, by omega, hf⟩
      · have d3 : decide (256 ≤ x / 4294967296 / 65536) = false := decide_eq_false q3
        have w8 : wrapF .u8 (x / 4294967296 / 65536) = x / 4294967296 / 65536 := wU8 (by omega)
        simp (maxSteps := 1000000) (disch := first | decide | omega | (simp only [go_sem]; first | done | omega)) only [go_sem, Int.reduceToNat, Nat.reduceMul, Nat.reduceAdd, Nat.reduceSub, ↓EU_region, ↓EU_draw, d1, d2, d3, shr32, shr16, shr8, w8, Int.reduceAdd]
        repeat refine WPo_ob ?_
        refine len_ix (by decide +kernel) (by omega) fun b h1 h2 h3 h4 => ?_
        have wb : wrapF .i64 (b : Int) = b := wrap64 (by omega)
        have wc : wrapF .i64 (48 + (b : Int)) = 48 + (b : Int) := wrap64 (by omega)
        simp (maxSteps := 1000000) (disch := first | decide | omega | (simp only [go_sem]; first | done | omega)) only [go_sem, Int.reduceToNat, Nat.reduceMul, Nat.reduceAdd, Nat.reduceSub, ↓EU_region, ↓EU_draw, wb, wc]
        have hf := len_fin (x := x) (v := x / 4294967296 / 65536) (K := 281474976710656) (k := 48) (b := b) (by decide) (by omega) (by omega) h1 h3 h4
        exact ⟨48 + b, rfl, by omega, by omega, hf⟩
    · have d2 : decide (65536 ≤ x / 4294967296) = false := decide_eq_false q2
      by_cases q3 : 256 ≤ x / 4294967296
      · have d3 : decide (256 ≤ x / 4294967296) = true := decide_eq_true q3
        have w8 : wrapF .u8 (x / 4294967296 / 256) = x / 4294967296 / 256 := wU8 (by omega)
        simp (maxSteps := 1000000) (disch := first | decide | omega | (simp only [go_sem]; first | done | omega)) only [go_sem, Int.reduceToNat, Nat.reduceMul, Nat.reduceAdd, Nat.reduceSub, ↓EU_region, ↓EU_draw, d1, d2, d3, shr32, shr16, shr8, w8, Int.reduceAdd]
        repeat refine WPo_ob ?_
        refine len_ix (by decide +kernel) (by omega) fun b h1 h2 h3 h4 => ?_
        have wb : wrapF .i64 (b : Int) = b := wrap64 (by omega)
        have wc : wrapF .i64 (40 + (b : Int)) = 40 + (b : Int) := wrap64 (by omega)
        simp (maxSteps := 1000000) (disch := first | decide | omega | (simp only [go_sem]; first | done | omega)) only [go_sem, Int.reduceToNat, Nat.reduceMul, Nat.reduceAdd, Nat.reduceSub, ↓EU_region, ↓EU_draw, wb, wc]
        have hf := len_fin (x := x) (v := x / 4294967296 / 256) (K := 1099511627776) (k := 40) (b := b) (by decide) (by omega) (by omega) h1 h3 h4
        exact ⟨40 + b, rfl, by omega, by omega, hf⟩
      · have d3 : decide (256 ≤ x / 4294967296) = false := decide_eq_false q3
        have w8 : wrapF .u8 (x / 4294967296) = x / 4294967296 := wU8 (by omega)
        simp (maxSteps := 1000000) (disch := first | decide | omega | (simp only [go_sem]; first | done | omega)) only [go_sem, Int.reduceToNat, Nat.reduceMul, Nat.reduceAdd, Nat.reduceSub, ↓EU_region, ↓EU_draw, d1, d2, d3, shr32, shr16, shr8, w8, Int.reduceAdd]
        repeat refine WPo_ob ?_
        refine len_ix (by decide +kernel) (by omega) fun b h1 h2 h3 h4 => ?_
        have wb : wrapF .i64 (b : Int) = b := wrap64 (by omega)
        have wc : wrapF .i64 (32 + (b : Int)) = 32 + (b : Int) := wrap64 (by omega)
        simp (maxSteps := 1000000) (disch := first | decide | omega | (simp only [go_sem]; first | done | omega)) only [go_sem, Int.reduceToNat, Nat.reduceMul, Nat.reduceAdd, Nat.reduceSub, ↓EU_region, ↓EU_draw, wb, wc]
        have hf := len_fin (x := x) (v := x / 4294967296) (K := 4294967296) (k := 32) (b := b) (by decide) (by omega) (by omega) h1 h3 h4
        exact ⟨32 + b, rfl, by omega, by omega, hf⟩
  · have d1 : decide (4294967296 ≤ x) = false := decide_eq_false q1
    by_cases q2 : 65536 ≤ x
    · have d2 : decide (65536 ≤ x) = true := decide_eq_true q2
      by_cases q3 : 256 ≤ x / 65536
      · have d3 : decide (256 ≤ x / 65536) = true := decide_eq_true q3
        have w8 : wrapF .u8 (x / 65536 / 256) = x / 65536 / 256 := wU8 (by omega)
        simp (maxSteps := 1000000) (disch := first | decide | omega | (simp only [go_sem]; first | done | omega)) only [go_sem, Int.reduceToNat, Nat.reduceMul, Nat.reduceAdd, Nat.reduceSub, ↓EU_region, ↓EU_draw, d1, d2, d3, shr32, shr16, shr8, w8, Int.reduceAdd]
        repeat refine WPo_ob ?_
        refine len_ix (by decide +kernel) (by omega) fun b h1 h2 h3 h4 => ?_
        have wb : wrapF .i64 (b : Int) = b := wrap64 (by omega)
        have wc : wrapF .i64 (24 + (b : Int)) = 24 + (b : Int) := wrap64 (by omega)
        simp (maxSteps := 1000000) (disch := first | decide | omega | (simp only [go_sem]; first | done | omega)) only [go_sem, Int.reduceToNat, Nat.reduceMul, Nat.reduceAdd, Nat.reduceSub, ↓EU_region, ↓EU_draw, wb, wc]
        have hf := len_fin (x := x) (v := x / 65536 / 256) (K := 16777216) (k := 24) (b := b) (by decide) (by omega) (by omega) h1 h3 h4
        exact ⟨24 + b, rfl, by omega, by omega, hf⟩
      · have d3 : decide (256 ≤ x / 65536) = false := decide_eq_false q3
        have w8 : wrapF .u8 (x / 65536) = x / 65536 := wU8 (by omega)
        simp (maxSteps := 1000000) (disch := first | decide | omega | (simp only [go_sem]; first | done | omega)) only [go_sem, Int.reduceToNat, Nat.reduceMul, Nat.reduceAdd, Nat.reduceSub, ↓EU_region, ↓EU_draw, d1, d2, d3, shr32, shr16, shr8, w8, Int.reduceAdd]
        repeat refine WPo_ob ?_
        refine len_ix (by decide +kernel) (by omega) fun b h1 h2 h3 h4 => ?_
        have wb : wrapF .i64 (b : Int) = b := wrap64 (by omega)
        have wc : wrapF .i64 (16 + (b : Int)) = 16 + (b : Int) := wrap64 (by omega)
        simp (maxSteps := 1000000) (disch := first | decide | omega | (simp only [go_sem]; first | done | omega)) only [go_sem, Int.reduceToNat, Nat.reduceMul, Nat.reduceAdd, Nat.reduceSub, ↓EU_region, ↓EU_draw, wb, wc]
        have hf := len_fin (x := x) (v := x / 65536) (K := 65536) (k := 16) (b := b) (by decide) (by omega) (by omega) h1 h3 h4
        exact ⟨16 + b, rfl, by omega, by omega, hf⟩
    · have d2 : decide (65536 ≤ x) = false := decide_eq_false q2
      by_cases q3 : 256 ≤ x
      · have d3 : decide (256 ≤ x) = true := decide_eq_true q3
        have w8 : wrapF .u8 (x / 256) = x / 256 := wU8 (by omega)
        simp (maxSteps := 1000000) (disch := first | decide | omega | (simp only [go_sem]; first | done | omega)) only [go_sem, Int.reduceToNat, Nat.reduceMul, Nat.reduceAdd, Nat.reduceSub, ↓EU_region, ↓EU_draw, d1, d2, d3, shr32, shr16, shr8, w8, Int.reduceAdd]
        repeat refine WPo_ob ?_
        refine len_ix (by decide +kernel) (by omega) fun b h1 h2 h3 h4 => ?_
        have wb : wrapF .i64 (b : Int) = b := wrap64 (by omega)
        have wc : wrapF .i64 (8 + (b : Int)) = 8 + (b : Int) := wrap64 (by omega)
        simp (maxSteps := 1000000) (disch := first | decide | omega | (simp only [go_sem]; first | done | omega)) only [go_sem, Int.reduceToNat, Nat.reduceMul, Nat.reduceAdd, Nat.reduceSub, ↓EU_region, ↓EU_draw, wb, wc]
        have hf := len_fin (x := x) (v := x / 256) (K := 256) (k := 8) (b := b) (by decide) (by omega) (by omega) h1 h3 h4
        exact ⟨8 + b, rfl, by omega, by omega, hf⟩
      · have d3 : decide (256 ≤ x) = false := decide_eq_false q3
        have w8 : wrapF .u8 (x) = x := wU8 (by omega)
        simp (maxSteps := 1000000) (disch := first | decide | omega | (simp only [go_sem]; first | done | omega)) only [go_sem, Int.reduceToNat, Nat.reduceMul, Nat.reduceAdd, Nat.reduceSub, ↓EU_region, ↓EU_draw, d1, d2, d3, shr32, shr16, shr8, w8, Int.reduceAdd]
        repeat refine WPo_ob ?_
        refine len_ix (by decide +kernel) (by omega) fun b h1 h2 h3 h4 => ?_
        have wb : wrapF .i64 (b : Int) = b := wrap64 (by omega)
        have wc : wrapF .i64 (0 + (b : Int)) = 0 + (b : Int) := wrap64 (by omega)
        simp (maxSteps := 1000000) (disch := first | decide | omega | (simp only [go_sem]; first | done | omega)) only [go_sem, Int.reduceToNat, Nat.reduceMul, Nat.reduceAdd, Nat.reduceSub, ↓EU_region, ↓EU_draw, wb, wc]
        have hf := len_fin (x := x) (v := x) (K := 1) (k := 0) (b := b) (by decide) (by omega) (by omega) h1 h3 h4
        exact ⟨0 + b, rfl, by omega, by omega, hf⟩
theorem lz64_ev (x : Int) (h : Heap) (hx : 0 < x ∧ x < 18446744073709551616) :
    ∃ n : Nat, EF Try.prog O0 39 [.int .u64 x] h = some (.int .i64 n, h) ∧ n ≤ 63 ∧ 9223372036854775808 ≤ x * 2 ^ n ∧ x * 2 ^ n < 18446744073709551616 := by
  have : WPo (EF Try.prog O0 39 [.int .u64 x] h) fun q => ∃ n : Nat, q = (.int .i64 n, h) ∧ n ≤ 63 ∧ 9223372036854775808 ≤ x * 2 ^ n ∧ x * 2 ^ n < 18446744073709551616 := by
    rw [EF_body (O := O0) (by kernel_rfl) Try.func39 rfl (rs := [.tmp 2]) rfl (bad := []) (by kernel_rfl) _ _ (m := 6) rfl]
    simp (maxSteps := 1000000) (disch := first | decide | omega | (simp only [go_sem]; first | done | omega)) only [go_sem, Int.reduceToNat, Nat.reduceMul, Nat.reduceAdd, Nat.reduceSub, ↓EU_region, ↓EU_draw]
    repeat refine WPo_ob ?_
    refine (len64_ev x h hx).mono ?_
    rintro _ ⟨n, rfl, h1, h2, h3, h4⟩
    have hw : wrapF .i64 (64 - (n : Int)) = ((64 - n : Nat) : Int) := by rw [wrap64 (by omega)]; omega
    simp (maxSteps := 1000000) (disch := first | decide | omega | (simp only [go_sem]; first | done | omega)) only [go_sem, Int.reduceToNat, Nat.reduceMul, Nat.reduceAdd, Nat.reduceSub, ↓EU_region, ↓EU_draw, hw]
    have hp : (0 : Int) < 2 ^ (64 - n) := Int.pow_pos (by decide)
    refine ⟨64 - n, rfl, by omega, ?_, ?_⟩
    · have := Int.mul_le_mul_of_nonneg_right h3 (Int.le_of_lt hp)
      rw [← Int.pow_add, show n - 1 + (64 - n) = 63 by omega] at this
      exact this
    · have := Int.mul_lt_mul_of_pos_right h4 hp
      rw [← Int.pow_add, show n + (64 - n) = 64 by omega] at this
      exact this
  obtain ⟨q, e, n, rfl, r⟩ := this
  exact ⟨n, e, r⟩
end Go.Proofs.Ytoomhlfogeglcaa.EV
