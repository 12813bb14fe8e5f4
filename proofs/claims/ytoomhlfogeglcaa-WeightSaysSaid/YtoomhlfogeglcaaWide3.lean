/- Wide numbers: bits.Div64. No condition. -/
import Derived.Test.YtoomhlfogeglcaaWide2
namespace Go.Proofs.Ytoomhlfogeglcaa.EV
open Go Go.Proofs
set_option linter.unusedVariables false
set_option linter.unusedSimpArgs false
set_option maxRecDepth 100000
set_option pp.deepTerms false
set_option pp.deepTerms.threshold 20
theorem digit_L1 {u d v1 v0 q : Int} (hv0 : 0 ≤ v0 ∧ v0 < 4294967296) (hv1 : 2147483648 ≤ v1 ∧ v1 < 4294967296) (hu : 0 ≤ u ∧ u < v1 * 4294967296 + v0) (hd : 0 ≤ d ∧ d < 4294967296)
    (h1 : q * (v1 * 4294967296 + v0) ≤ u * 4294967296 + d) (hq : 0 ≤ q) : q ≤ u / v1 ∧ u / v1 ≤ 4294967297 := by
  have e1 : q * (v1 * 4294967296 + v0) = q * v1 * 4294967296 + q * v0 := by grind
  have e2 : 0 ≤ q * v0 := Int.mul_nonneg hq hv0.1
  constructor
  · rw [Int.le_ediv_iff_mul_le (by omega)]
    omega
  · have := (Int.ediv_lt_iff_lt_mul (a := u) (b := 4294967298) (c := v1) (by omega)).2 (by omega)
    omega
theorem digit_L2 {u d v1 v0 q r qs : Int} (hv : 0 < v1 * 4294967296 + v0) (h2 : u * 4294967296 + d < (qs + 1) * (v1 * 4294967296 + v0))
    (hr : q * v1 + r = u) (hc : q * v0 ≤ 4294967296 * r + d) : q ≤ qs := by
  have e1 : q * (v1 * 4294967296 + v0) = q * v1 * 4294967296 + q * v0 := by grind
  have : q * (v1 * 4294967296 + v0) < (qs + 1) * (v1 * 4294967296 + v0) := by omega
  have := Int.lt_of_mul_lt_mul_right this (by omega)
  omega
theorem digit_L3 {u d v1 v0 q r qs : Int} (hv : 0 < v1 * 4294967296 + v0) (h1 : qs * (v1 * 4294967296 + v0) ≤ u * 4294967296 + d)
    (hr : q * v1 + r = u) (hc : 4294967296 * r + d < q * v0) : qs < q := by
  have e1 : q * (v1 * 4294967296 + v0) = q * v1 * 4294967296 + q * v0 := by grind
  have : qs * (v1 * 4294967296 + v0) < q * (v1 * 4294967296 + v0) := by omega
  exact Int.lt_of_mul_lt_mul_right this (by omega)
theorem digit_L4 {d v0 q r : Int} (hv0 : 0 ≤ v0 ∧ v0 < 4294967296) (hq : q ≤ 4294967296) (hr : 4294967296 ≤ r) (hd : 0 ≤ d) : q * v0 ≤ 4294967296 * r + d := by
  have := Int.mul_le_mul_of_nonneg_right hq hv0.1
  omega
/-- a digit of the quotient: what is asked of it -/
theorem digit_is {u d v : Int} (hv : 0 < v) (hu : 0 ≤ u ∧ u < v) (hd : 0 ≤ d ∧ d < 4294967296) :
    (u * 4294967296 + d) / v * v ≤ u * 4294967296 + d ∧ u * 4294967296 + d < ((u * 4294967296 + d) / v + 1) * v ∧ 0 ≤ (u * 4294967296 + d) / v ∧ (u * 4294967296 + d) / v < 4294967296 := by
  refine ⟨Int.ediv_mul_le _ (by omega), ?_, Int.ediv_nonneg (by omega) (by omega), ?_⟩
  · exact Int.lt_mul_of_ediv_lt hv (by omega)
  · exact (Int.ediv_lt_iff_lt_mul hv).2 (by omega)
theorem un_split {lo p r : Int} (hp : 0 < p) (hM : r * p = 18446744073709551616) : lo * p = lo / r * 18446744073709551616 + lo * p % 18446744073709551616 := by
  have h1 : lo * p / 18446744073709551616 = lo / r := by rw [← hM]; exact Int.mul_ediv_mul_of_pos_left lo r hp
  have h2 := Int.mul_ediv_add_emod (lo * p) 18446744073709551616
  rw [h1] at h2
  omega
theorem div_final {hi lo y p r u w d1 d0 v q1 q0 u21 r2 : Int} (hp : 0 < p) (hy : 0 < y) (hv : y * p = v)
    (hu : hi * p + lo / r = u) (hw : lo * p = lo / r * 18446744073709551616 + w) (hd : d1 * 4294967296 + d0 = w)
    (e1 : u * 4294967296 + d1 - q1 * v = u21) (e2 : u21 * 4294967296 + d0 - q0 * v = r2) (hr : 0 ≤ r2 ∧ r2 < v) :
    (hi * 18446744073709551616 + lo) / y = q1 * 4294967296 + q0 ∧ (hi * 18446744073709551616 + lo) % y = r2 / p := by
  have e3 : (hi * 18446744073709551616 + lo - (q1 * 4294967296 + q0) * y) * p = r2 := by
    subst hv
    grind
  generalize hk : hi * 18446744073709551616 + lo - (q1 * 4294967296 + q0) * y = k at e3
  have k0 : 0 ≤ k := Int.le_of_mul_le_mul_right (a := p) (by omega) hp
  have k1 : k < y := Int.lt_of_mul_lt_mul_right (a := p) (by omega) (by omega)
  have e4 : hi * 18446744073709551616 + lo = k + y * (q1 * 4294967296 + q0) := by
    have : y * (q1 * 4294967296 + q0) = (q1 * 4294967296 + q0) * y := Int.mul_comm _ _
    omega
  have e5 : r2 / p = k := by rw [← e3]; exact Int.mul_ediv_cancel k (by omega)
  rw [e4, e5, Int.add_mul_ediv_left _ _ (by omega), Int.add_mul_emod_self_left, Int.ediv_eq_zero_of_lt k0 k1, Int.emod_eq_of_lt k0 k1]
  exact ⟨by omega, rfl⟩
theorem or_shl {a b p : Int} {n : Nat} (hp : p = 2 ^ n) (ha : 0 ≤ a) (hb : 0 ≤ b ∧ b < p) : (((a * p).toNat ||| b.toNat : Nat) : Int) = a * p + b := by
  subst hp
  obtain ⟨x, rfl⟩ := Int.eq_ofNat_of_zero_le ha
  obtain ⟨z, rfl⟩ := Int.eq_ofNat_of_zero_le hb.1
  have e : ((2 : Int) ^ n) = ((2 ^ n : Nat) : Int) := by rw [Int.natCast_pow]; rfl
  rw [e] at hb ⊢
  have hz : z < 2 ^ n := by omega
  rw [show ((x : Int) * ((2 ^ n : Nat) : Int)).toNat = x * 2 ^ n from by rw [← Int.natCast_mul]; rfl]
  have := Nat.shiftLeft_add_eq_or_of_lt hz x
  rw [Nat.shiftLeft_eq] at this
  rw [show (z : Int).toNat = z from rfl, ← this, Int.natCast_add, Int.natCast_mul]
set_option maxHeartbeats 8000000 in
theorem div64_ev (hi lo y : Int) (h : Heap) (hy : 0 < y ∧ y < 18446744073709551616) (hhi : 0 ≤ hi ∧ hi < y) (hlo : 0 ≤ lo ∧ lo < 18446744073709551616) :
    EF Try.prog O0 32 [.int .u64 hi, .int .u64 lo, .int .u64 y] h = some (.tuple ⟨[.int .u64 ((hi * 18446744073709551616 + lo) / y), .int .u64 ((hi * 18446744073709551616 + lo) % y)]⟩, h) := by
  have : WPo (EF Try.prog O0 32 [.int .u64 hi, .int .u64 lo, .int .u64 y] h) fun q => q = (.tuple ⟨[.int .u64 ((hi * 18446744073709551616 + lo) / y), .int .u64 ((hi * 18446744073709551616 + lo) % y)]⟩, h) := by
    rw [EF_body (O := O0) (by kernel_rfl) Try.func32 rfl (rs := [.tmp 6, .tmp 7]) rfl (bad := []) (by kernel_rfl) _ _ (m := 135) rfl]
    have hy0 : decide (y = 0) = false := decide_eq_false (by omega)
    have hyh : decide (y ≤ hi) = false := decide_eq_false (by omega)
    by_cases h0 : hi = 0
    · subst h0
      have hq := fun t a b => bin_quo Try.prog t a b .u64 lo y (by omega)
      have hr := fun t a b => bin_rem0 Try.prog t a b .u64 lo y (by omega)
      have e1 : lo.tdiv y = lo / y := Int.tdiv_eq_ediv_of_nonneg (by omega)
      have e2 : lo.tmod y = lo % y := Int.tmod_eq_emod_of_nonneg (by omega)
      have b1 : 0 ≤ lo / y ∧ lo / y ≤ lo := ⟨Int.ediv_nonneg (by omega) (by omega), Int.ediv_le_self _ (by omega)⟩
      have w1 : wrapF .u64 (lo / y) = lo / y := wU64 (by omega)
      rw [Int.zero_mul, Int.zero_add]
      simp (maxSteps := 1000000) (disch := first | decide | omega | (simp only [go_sem]; first | done | omega)) only [go_sem, Int.reduceToNat, Nat.reduceMul, Nat.reduceAdd, Nat.reduceSub, ↓EU_region, ↓EU_draw, dec_t, dec_f, hy0, hyh, hq, hr, e1, e2, w1]
    · have hh0 : decide (hi = 0) = false := decide_eq_false h0
      obtain ⟨n, hlz, hn, hs1, hs2⟩ := lz64_ev y h hy
      have hp : (0 : Int) < 2 ^ n := Int.pow_pos (by decide)
      have hpr : (2 : Int) ^ (64 - n) * 2 ^ n = 18446744073709551616 := by rw [← Int.pow_add, show 64 - n + n = 64 by omega]; rfl
      have hr0 : (0 : Int) < 2 ^ (64 - n) := Int.pow_pos (by decide)
      have wn : wrapF .u64 (n : Int) = n := wU64 (by omega)
      have hshl := fun t x z (a : Int) => bin_shl64 Try.prog t x z (k := .u64) (j := .u64) (a := a) (b := (n : Int)) ⟨by omega, by show (n : Int) ≤ 64; omega⟩
      have hshr2 := fun t x z (a : Int) => bin_shr64 Try.prog t x z (k := .u64) (j := .u64) (a := a) (b := (n : Int)) ⟨by omega, by show (n : Int) ≤ 64; omega⟩
      have wn2 : wrapF .u64 (64 - (n : Int)) = ((64 - n : Nat) : Int) := by rw [wU64 (by omega)]; omega
      have hshr := fun t x z (a : Int) => bin_shr64 Try.prog t x z (k := .u64) (j := .u64) (a := a) (b := ((64 - n : Nat) : Int)) ⟨by omega, by show ((64 - n : Nat) : Int) ≤ 64; omega⟩
      simp only [toNat_nat] at hshl hshr2 hshr
      obtain ⟨p, ep⟩ : ∃ p, (2 : Int) ^ n = p := ⟨_, rfl⟩
      obtain ⟨rr, er⟩ : ∃ p, (2 : Int) ^ (64 - n) = p := ⟨_, rfl⟩
      rw [ep] at hp hpr hs1 hs2 hshl hshr2
      rw [er] at hpr hr0 hshr
      have hlr : 0 ≤ lo / rr ∧ lo / rr < p := ⟨Int.ediv_nonneg (by omega) (by omega), (Int.ediv_lt_iff_lt_mul hr0).2 (by have : p * rr = rr * p := Int.mul_comm _ _; omega)⟩
      have hhp : 0 ≤ hi * p := Int.mul_nonneg (by omega) (by omega)
      have hhy : hi * p + p ≤ y * p := by
        have := Int.mul_le_mul_of_nonneg_right (show hi + 1 ≤ y by omega) (Int.le_of_lt hp)
        rw [Int.add_mul, Int.one_mul] at this
        exact this
      have hor := fun t x z => bin_orI Try.prog t x z (k := .u64) (a := hi * p) (b := lo / rr) rfl ⟨hhp, by show hi * p < 18446744073709551616; omega⟩ ⟨hlr.1, by show lo / rr < 18446744073709551616; omega⟩
      rw [or_shl ep.symm hhi.1 hlr] at hor
      have hws := un_split (lo := lo) hp hpr
      have w1 := wU64 (n := y * p) (by omega)
      have w2 := wU64 (n := hi * p) (by omega)
      have w3 := wU64_mod (lo * p)
      obtain ⟨v, ev⟩ : ∃ v, y * p = v := ⟨_, rfl⟩
      obtain ⟨u, eu⟩ : ∃ u, hi * p + lo / rr = u := ⟨_, rfl⟩
      obtain ⟨w, ew⟩ : ∃ w, lo * p % 18446744073709551616 = w := ⟨_, rfl⟩
      have hwr : 0 ≤ w ∧ w < 18446744073709551616 := by omega
      rw [ev] at w1 hs1 hs2 hhy
      rw [ew] at w3 hws
      have hur : 0 ≤ u ∧ u < v := by omega
      obtain ⟨v1, e1⟩ : ∃ z, v / 4294967296 = z := ⟨_, rfl⟩
      obtain ⟨v0, e0⟩ : ∃ z, v % 4294967296 = z := ⟨_, rfl⟩
      have hvv : v1 * 4294967296 + v0 = v := by omega
      have hv0 : 0 ≤ v0 ∧ v0 < 4294967296 := by omega
      have hv1 : 2147483648 ≤ v1 ∧ v1 < 4294967296 := by omega
      obtain ⟨d1, ed1⟩ : ∃ z, w / 4294967296 = z := ⟨_, rfl⟩
      obtain ⟨d0, ed0⟩ : ∃ z, w % 4294967296 = z := ⟨_, rfl⟩
      have hdd : d1 * 4294967296 + d0 = w := by omega
      have hd1 : 0 ≤ d1 ∧ d1 < 4294967296 := by omega
      have hd0 : 0 ≤ d0 ∧ d0 < 4294967296 := by omega
      have av := fun t x z => and32 Try.prog t x z (a := v) (by omega)
      have aw := fun t x z => and32 Try.prog t x z hwr
      -- the first digit
      have K1 := digit_is (u := u) (d := d1) (v := v) (by omega) hur hd1
      obtain ⟨q1, eq1⟩ : ∃ z, (u * 4294967296 + d1) / v = z := ⟨_, rfl⟩
      rw [eq1, ← hvv] at K1
      have hg1 := digit_L1 hv0 hv1 (by rw [hvv]; exact hur) hd1 K1.1 K1.2.2.1
      have hbq := fun t a b => bin_quo Try.prog t a b .u64 u v1 (by omega)
      have et1 : u.tdiv v1 = u / v1 := Int.tdiv_eq_ediv_of_nonneg hur.1
      have hgm := Int.mul_ediv_add_emod u v1
      have hgr : 0 ≤ u % v1 ∧ u % v1 < v1 := ⟨Int.emod_nonneg _ (by omega), Int.emod_lt_of_pos _ (by omega)⟩
      have hcm : v1 * (u / v1) = u / v1 * v1 := Int.mul_comm _ _
      have hg0 : 0 ≤ u / v1 := Int.le_trans K1.2.2.1 hg1.1
      have hgn : 0 ≤ u / v1 * v1 := Int.mul_nonneg hg0 (by omega)
      have wg := wU64 (n := u / v1) (by omega)
      have wgm := wU64 (n := u / v1 * v1) (by omega)
      have wgr := wU64 (n := u - u / v1 * v1) (by omega)
      have hqr0 : u / v1 * v1 + (u - u / v1 * v1) = u := by omega
      have hrr : 0 ≤ u - u / v1 * v1 ∧ u - u / v1 * v1 < v1 := by omega
      generalize u / v1 = g at *
      simp (maxSteps := 1000000) (disch := first | decide | omega | (simp only [go_sem]; first | done | omega)) only [go_sem, Int.reduceToNat, Nat.reduceMul, Nat.reduceAdd, Nat.reduceSub, ↓EU_region, ↓EU_draw, dec_t, dec_f, hy0, hyh, hh0, hlz, wn, hshl, hshr, wn2, hor, w1, w2, w3, ev, eu, ew, shr32, av, aw, e1, e0, ed1, ed0, hbq, et1, wg, wgm, wgr]
      repeat refine WPo_ob ?_
      refine (LP_rule (fun m st => ∃ (tm : Fr) (q r : Int), st = ⟨tm, h, []⟩ ∧ m = (if r < 2147483648 then 1 else 0) ∧ Fr.get tm 15 = .int .u64 q ∧ Fr.get tm 16 = .int .u64 r ∧ (Fr.get tm 2 = .int .u64 v ∧ Fr.get tm 8 = .int .u64 n ∧ Fr.get tm 9 = .int .u64 v1 ∧ Fr.get tm 10 = .int .u64 v0 ∧ Fr.get tm 11 = .int .u64 u ∧ Fr.get tm 13 = .int .u64 d1 ∧ Fr.get tm 14 = .int .u64 d0) ∧ q1 ≤ q ∧ q ≤ 4294967297 ∧ 0 ≤ r ∧ r < 4294967296 ∧ q * v1 + r = u)
        (fun q => ∃ tm, q.2 = ⟨tm, h, []⟩ ∧ q.1 = .exit 0 ∧ Fr.get tm 15 = .int .u64 q1 ∧ (Fr.get tm 2 = .int .u64 v ∧ Fr.get tm 8 = .int .u64 n ∧ Fr.get tm 9 = .int .u64 v1 ∧ Fr.get tm 10 = .int .u64 v0 ∧ Fr.get tm 11 = .int .u64 u ∧ Fr.get tm 13 = .int .u64 d1 ∧ Fr.get tm 14 = .int .u64 d0)) ?_ (if u - g * v1 < 2147483648 then 1 else 0) _ _ ?_ ?_).mono ?_
      · rintro m _ ⟨tm, q, r, rfl, rfl, gq, gr, ⟨g2, g8, g9, g10, g11, g13, g14⟩, hq1, hq2, hr1, hr2, hqr⟩
        by_cases c1 : 4294967296 ≤ q
        · have hc1 : decide (4294967296 ≤ q) = true := decide_eq_true c1
          simp (maxSteps := 1000000) (disch := first | decide | omega | (simp only [go_sem]; first | done | omega)) only [go_sem, Int.reduceToNat, Nat.reduceMul, Nat.reduceAdd, Nat.reduceSub, ↓EU_region, ↓EU_draw, gq, gr, g2, g8, g9, g10, g11, g13, g14, hc1]
          have hlt' : q1 < q := (by omega)
          have wq1 := wU64 (n := q - 1) (by omega)
          have wr1 := wU64 (n := r + v1) (by omega)
          have hqr' : (q - 1) * v1 + (r + v1) = u := by rw [← hqr]; grind
          by_cases c3 : 4294967296 ≤ r + v1
          · have hc3 : decide (4294967296 ≤ r + v1) = true := decide_eq_true c3
            have hle := digit_L2 (by omega) K1.2.1 hqr' (digit_L4 hv0 (by omega) c3 (by omega))
            simp (maxSteps := 1000000) (disch := first | decide | omega | (simp only [go_sem]; first | done | omega)) only [go_sem, Int.reduceToNat, Nat.reduceMul, Nat.reduceAdd, Nat.reduceSub, ↓EU_region, ↓EU_draw, gq, gr, g2, g8, g9, g10, g11, g13, g14, wq1, wr1, hc3]
            exact ⟨_, rfl, trivial, by simp (maxSteps := 1000000) (disch := first | decide | omega | (simp only [go_sem]; first | done | omega)) only [go_sem, Int.reduceToNat, Nat.reduceMul, Nat.reduceAdd, Nat.reduceSub, ↓EU_region, ↓EU_draw]; rw [show q - 1 = q1 by omega], (by refine ⟨?_, ?_, ?_, ?_, ?_, ?_, ?_⟩ <;> simp (maxSteps := 1000000) (disch := first | decide | omega | (simp only [go_sem]; first | done | omega)) only [go_sem, Int.reduceToNat, Nat.reduceMul, Nat.reduceAdd, Nat.reduceSub, ↓EU_region, ↓EU_draw, g2, g8, g9, g10, g11, g13, g14])⟩
          · have hc3 : decide (4294967296 ≤ r + v1) = false := decide_eq_false c3
            simp (maxSteps := 1000000) (disch := first | decide | omega | (simp only [go_sem]; first | done | omega)) only [go_sem, Int.reduceToNat, Nat.reduceMul, Nat.reduceAdd, Nat.reduceSub, ↓EU_region, ↓EU_draw, gq, gr, g2, g8, g9, g10, g11, g13, g14, wq1, wr1, hc3]
            exact ⟨0, by rw [if_pos (by omega)]; decide, _, q - 1, r + v1, rfl, (if_neg (by omega)).symm, by simp (maxSteps := 1000000) (disch := first | decide | omega | (simp only [go_sem]; first | done | omega)) only [go_sem, Int.reduceToNat, Nat.reduceMul, Nat.reduceAdd, Nat.reduceSub, ↓EU_region, ↓EU_draw], by simp (maxSteps := 1000000) (disch := first | decide | omega | (simp only [go_sem]; first | done | omega)) only [go_sem, Int.reduceToNat, Nat.reduceMul, Nat.reduceAdd, Nat.reduceSub, ↓EU_region, ↓EU_draw], (by refine ⟨?_, ?_, ?_, ?_, ?_, ?_, ?_⟩ <;> simp (maxSteps := 1000000) (disch := first | decide | omega | (simp only [go_sem]; first | done | omega)) only [go_sem, Int.reduceToNat, Nat.reduceMul, Nat.reduceAdd, Nat.reduceSub, ↓EU_region, ↓EU_draw, g2, g8, g9, g10, g11, g13, g14]), by omega, by omega, by omega, by omega, hqr'⟩
        · have hc1 : decide (4294967296 ≤ q) = false := decide_eq_false c1
          have hq0v := mul_range (a := q) (b := v0) (by omega) (by omega)
          have wq := wU64 (n := q * v0) (by omega)
          have wr := wU64 (n := 4294967296 * r) (by omega)
          have wrd := wU64 (n := 4294967296 * r + d1) (by omega)
          by_cases c2 : 4294967296 * r + d1 < q * v0
          · have hc2 : decide (4294967296 * r + d1 < q * v0) = true := decide_eq_true c2
            have hlt := digit_L3 (by omega) K1.1 hqr c2
            simp (maxSteps := 1000000) (disch := first | decide | omega | (simp only [go_sem]; first | done | omega)) only [go_sem, Int.reduceToNat, Nat.reduceMul, Nat.reduceAdd, Nat.reduceSub, ↓EU_region, ↓EU_draw, gq, gr, g2, g8, g9, g10, g11, g13, g14, hc1, hc2, wq, wr, wrd]
            have hlt' : q1 < q := (by omega)
            have wq1 := wU64 (n := q - 1) (by omega)
            have wr1 := wU64 (n := r + v1) (by omega)
            have hqr' : (q - 1) * v1 + (r + v1) = u := by rw [← hqr]; grind
            by_cases c3 : 4294967296 ≤ r + v1
            · have hc3 : decide (4294967296 ≤ r + v1) = true := decide_eq_true c3
              have hle := digit_L2 (by omega) K1.2.1 hqr' (digit_L4 hv0 (by omega) c3 (by omega))
              simp (maxSteps := 1000000) (disch := first | decide | omega | (simp only [go_sem]; first | done | omega)) only [go_sem, Int.reduceToNat, Nat.reduceMul, Nat.reduceAdd, Nat.reduceSub, ↓EU_region, ↓EU_draw, gq, gr, g2, g8, g9, g10, g11, g13, g14, wq1, wr1, hc3]
              exact ⟨_, rfl, trivial, by simp (maxSteps := 1000000) (disch := first | decide | omega | (simp only [go_sem]; first | done | omega)) only [go_sem, Int.reduceToNat, Nat.reduceMul, Nat.reduceAdd, Nat.reduceSub, ↓EU_region, ↓EU_draw]; rw [show q - 1 = q1 by omega], (by refine ⟨?_, ?_, ?_, ?_, ?_, ?_, ?_⟩ <;> simp (maxSteps := 1000000) (disch := first | decide | omega | (simp only [go_sem]; first | done | omega)) only [go_sem, Int.reduceToNat, Nat.reduceMul, Nat.reduceAdd, Nat.reduceSub, ↓EU_region, ↓EU_draw, g2, g8, g9, g10, g11, g13, g14])⟩
            · have hc3 : decide (4294967296 ≤ r + v1) = false := decide_eq_false c3
              simp (maxSteps := 1000000) (disch := first | decide | omega | (simp only [go_sem]; first | done | omega)) only [go_sem, Int.reduceToNat, Nat.reduceMul, Nat.reduceAdd, Nat.reduceSub, ↓EU_region, ↓EU_draw, gq, gr, g2, g8, g9, g10, g11, g13, g14, wq1, wr1, hc3]
              exact ⟨0, by rw [if_pos (by omega)]; decide, _, q - 1, r + v1, rfl, (if_neg (by omega)).symm, by simp (maxSteps := 1000000) (disch := first | decide | omega | (simp only [go_sem]; first | done | omega)) only [go_sem, Int.reduceToNat, Nat.reduceMul, Nat.reduceAdd, Nat.reduceSub, ↓EU_region, ↓EU_draw], by simp (maxSteps := 1000000) (disch := first | decide | omega | (simp only [go_sem]; first | done | omega)) only [go_sem, Int.reduceToNat, Nat.reduceMul, Nat.reduceAdd, Nat.reduceSub, ↓EU_region, ↓EU_draw], (by refine ⟨?_, ?_, ?_, ?_, ?_, ?_, ?_⟩ <;> simp (maxSteps := 1000000) (disch := first | decide | omega | (simp only [go_sem]; first | done | omega)) only [go_sem, Int.reduceToNat, Nat.reduceMul, Nat.reduceAdd, Nat.reduceSub, ↓EU_region, ↓EU_draw, g2, g8, g9, g10, g11, g13, g14]), by omega, by omega, by omega, by omega, hqr'⟩
          · have hc2 : decide (4294967296 * r + d1 < q * v0) = false := decide_eq_false c2
            have hle := digit_L2 (by omega) K1.2.1 hqr (by omega)
            simp (maxSteps := 1000000) (disch := first | decide | omega | (simp only [go_sem]; first | done | omega)) only [go_sem, Int.reduceToNat, Nat.reduceMul, Nat.reduceAdd, Nat.reduceSub, ↓EU_region, ↓EU_draw, gq, gr, g2, g8, g9, g10, g11, g13, g14, hc1, hc2, wq, wr, wrd]
            exact ⟨_, rfl, trivial, by simp (maxSteps := 1000000) (disch := first | decide | omega | (simp only [go_sem]; first | done | omega)) only [go_sem, Int.reduceToNat, Nat.reduceMul, Nat.reduceAdd, Nat.reduceSub, ↓EU_region, ↓EU_draw, gq]; rw [show q = q1 by omega], (by refine ⟨?_, ?_, ?_, ?_, ?_, ?_, ?_⟩ <;> simp (maxSteps := 1000000) (disch := first | decide | omega | (simp only [go_sem]; first | done | omega)) only [go_sem, Int.reduceToNat, Nat.reduceMul, Nat.reduceAdd, Nat.reduceSub, ↓EU_region, ↓EU_draw, g2, g8, g9, g10, g11, g13, g14])⟩
      · exact ⟨_, g, _, rfl, rfl, by simp (maxSteps := 1000000) (disch := first | decide | omega | (simp only [go_sem]; first | done | omega)) only [go_sem, Int.reduceToNat, Nat.reduceMul, Nat.reduceAdd, Nat.reduceSub, ↓EU_region, ↓EU_draw], by simp (maxSteps := 1000000) (disch := first | decide | omega | (simp only [go_sem]; first | done | omega)) only [go_sem, Int.reduceToNat, Nat.reduceMul, Nat.reduceAdd, Nat.reduceSub, ↓EU_region, ↓EU_draw], ⟨by simp (maxSteps := 1000000) (disch := first | decide | omega | (simp only [go_sem]; first | done | omega)) only [go_sem, Int.reduceToNat, Nat.reduceMul, Nat.reduceAdd, Nat.reduceSub, ↓EU_region, ↓EU_draw], by simp (maxSteps := 1000000) (disch := first | decide | omega | (simp only [go_sem]; first | done | omega)) only [go_sem, Int.reduceToNat, Nat.reduceMul, Nat.reduceAdd, Nat.reduceSub, ↓EU_region, ↓EU_draw], by simp (maxSteps := 1000000) (disch := first | decide | omega | (simp only [go_sem]; first | done | omega)) only [go_sem, Int.reduceToNat, Nat.reduceMul, Nat.reduceAdd, Nat.reduceSub, ↓EU_region, ↓EU_draw], by simp (maxSteps := 1000000) (disch := first | decide | omega | (simp only [go_sem]; first | done | omega)) only [go_sem, Int.reduceToNat, Nat.reduceMul, Nat.reduceAdd, Nat.reduceSub, ↓EU_region, ↓EU_draw], by simp (maxSteps := 1000000) (disch := first | decide | omega | (simp only [go_sem]; first | done | omega)) only [go_sem, Int.reduceToNat, Nat.reduceMul, Nat.reduceAdd, Nat.reduceSub, ↓EU_region, ↓EU_draw], by simp (maxSteps := 1000000) (disch := first | decide | omega | (simp only [go_sem]; first | done | omega)) only [go_sem, Int.reduceToNat, Nat.reduceMul, Nat.reduceAdd, Nat.reduceSub, ↓EU_region, ↓EU_draw], by simp (maxSteps := 1000000) (disch := first | decide | omega | (simp only [go_sem]; first | done | omega)) only [go_sem, Int.reduceToNat, Nat.reduceMul, Nat.reduceAdd, Nat.reduceSub, ↓EU_region, ↓EU_draw]⟩, hg1.1, hg1.2, hrr.1, by omega, hqr0⟩
      · split <;> omega
      · rintro ⟨_, _⟩ ⟨tm, rfl, rfl, gq, ⟨g2, g8, g9, g10, g11, g13, g14⟩⟩
        -- what is left
        obtain ⟨u21, eu21⟩ : ∃ z, u * 4294967296 + d1 - q1 * v = z := ⟨_, rfl⟩
        have hq1v : q1 * v ≤ u * 4294967296 + d1 ∧ u * 4294967296 + d1 < (q1 + 1) * v := by rw [← hvv]; exact ⟨K1.1, K1.2.1⟩
        rw [Int.add_mul, Int.one_mul] at hq1v
        have hu21 : 0 ≤ u21 ∧ u21 < v := by omega
        have wu : wrapF .u64 (wrapF .u64 (wrapF .u64 (u * 4294967296) + d1) - wrapF .u64 (q1 * v)) = u21 := by
          rw [wU64_mod, wU64_mod, wU64_mod, wU64_mod]; omega
        -- the second digit
        have K2 := digit_is (u := u21) (d := d0) (v := v) (by omega) hu21 hd0
        obtain ⟨q0, eq0⟩ : ∃ z, (u21 * 4294967296 + d0) / v = z := ⟨_, rfl⟩
        rw [eq0, ← hvv] at K2
        have hgg1 := digit_L1 hv0 hv1 (by rw [hvv]; exact hu21) hd0 K2.1 K2.2.2.1
        have hbq := fun t a b => bin_quo Try.prog t a b .u64 u21 v1 (by omega)
        have et1 : u21.tdiv v1 = u21 / v1 := Int.tdiv_eq_ediv_of_nonneg hu21.1
        have hgm := Int.mul_ediv_add_emod u21 v1
        have hgr : 0 ≤ u21 % v1 ∧ u21 % v1 < v1 := ⟨Int.emod_nonneg _ (by omega), Int.emod_lt_of_pos _ (by omega)⟩
        have hcm : v1 * (u21 / v1) = u21 / v1 * v1 := Int.mul_comm _ _
        have hg0 : 0 ≤ u21 / v1 := Int.le_trans K2.2.2.1 hgg1.1
        have hgn : 0 ≤ u21 / v1 * v1 := Int.mul_nonneg hg0 (by omega)
        have wg := wU64 (n := u21 / v1) (by omega)
        have wgm := wU64 (n := u21 / v1 * v1) (by omega)
        have wgr := wU64 (n := u21 - u21 / v1 * v1) (by omega)
        have hqr0 : u21 / v1 * v1 + (u21 - u21 / v1 * v1) = u21 := by omega
        have hrr : 0 ≤ u21 - u21 / v1 * v1 ∧ u21 - u21 / v1 * v1 < v1 := by omega
        generalize u21 / v1 = gg at *
        simp (maxSteps := 1000000) (disch := first | decide | omega | (simp only [go_sem]; first | done | omega)) only [go_sem, Int.reduceToNat, Nat.reduceMul, Nat.reduceAdd, Nat.reduceSub, ↓EU_region, ↓EU_draw, dec_t, dec_f, gq, g2, g8, g9, g10, g11, g13, g14, wu, hbq, et1, wg, wgm, wgr]
        repeat refine WPo_ob ?_
        refine (LP_rule (fun m st => ∃ (tm : Fr) (q r : Int), st = ⟨tm, h, []⟩ ∧ m = (if r < 2147483648 then 1 else 0) ∧ Fr.get tm 18 = .int .u64 q ∧ Fr.get tm 16 = .int .u64 r ∧ (Fr.get tm 2 = .int .u64 v ∧ Fr.get tm 8 = .int .u64 n ∧ Fr.get tm 9 = .int .u64 v1 ∧ Fr.get tm 10 = .int .u64 v0 ∧ Fr.get tm 17 = .int .u64 u21 ∧ Fr.get tm 15 = .int .u64 q1 ∧ Fr.get tm 14 = .int .u64 d0) ∧ q0 ≤ q ∧ q ≤ 4294967297 ∧ 0 ≤ r ∧ r < 4294967296 ∧ q * v1 + r = u21)
          (fun q => ∃ tm, q.2 = ⟨tm, h, []⟩ ∧ q.1 = .exit 2 ∧ Fr.get tm 18 = .int .u64 q0 ∧ (Fr.get tm 2 = .int .u64 v ∧ Fr.get tm 8 = .int .u64 n ∧ Fr.get tm 9 = .int .u64 v1 ∧ Fr.get tm 10 = .int .u64 v0 ∧ Fr.get tm 17 = .int .u64 u21 ∧ Fr.get tm 15 = .int .u64 q1 ∧ Fr.get tm 14 = .int .u64 d0)) ?_ (if u21 - gg * v1 < 2147483648 then 1 else 0) _ _ ?_ ?_).mono ?_
        · rintro m _ ⟨tm, q, r, rfl, rfl, gq, gr, ⟨k2, k8, k9, k10, k17, k15, k14⟩, hq1, hq2, hr1, hr2, hqr⟩
          by_cases c1 : 4294967296 ≤ q
          · have hc1 : decide (4294967296 ≤ q) = true := decide_eq_true c1
            simp (maxSteps := 1000000) (disch := first | decide | omega | (simp only [go_sem]; first | done | omega)) only [go_sem, Int.reduceToNat, Nat.reduceMul, Nat.reduceAdd, Nat.reduceSub, ↓EU_region, ↓EU_draw, gq, gr, k2, k8, k9, k10, k17, k15, k14, hc1]
            have hlt' : q0 < q := (by omega)
            have wq1 := wU64 (n := q - 1) (by omega)
            have wr1 := wU64 (n := r + v1) (by omega)
            have hqr' : (q - 1) * v1 + (r + v1) = u21 := by rw [← hqr]; grind
            by_cases c3 : 4294967296 ≤ r + v1
            · have hc3 : decide (4294967296 ≤ r + v1) = true := decide_eq_true c3
              have hle := digit_L2 (by omega) K2.2.1 hqr' (digit_L4 hv0 (by omega) c3 (by omega))
              simp (maxSteps := 1000000) (disch := first | decide | omega | (simp only [go_sem]; first | done | omega)) only [go_sem, Int.reduceToNat, Nat.reduceMul, Nat.reduceAdd, Nat.reduceSub, ↓EU_region, ↓EU_draw, gq, gr, k2, k8, k9, k10, k17, k15, k14, wq1, wr1, hc3]
              exact ⟨_, rfl, trivial, by simp (maxSteps := 1000000) (disch := first | decide | omega | (simp only [go_sem]; first | done | omega)) only [go_sem, Int.reduceToNat, Nat.reduceMul, Nat.reduceAdd, Nat.reduceSub, ↓EU_region, ↓EU_draw]; rw [show q - 1 = q0 by omega], (by refine ⟨?_, ?_, ?_, ?_, ?_, ?_, ?_⟩ <;> simp (maxSteps := 1000000) (disch := first | decide | omega | (simp only [go_sem]; first | done | omega)) only [go_sem, Int.reduceToNat, Nat.reduceMul, Nat.reduceAdd, Nat.reduceSub, ↓EU_region, ↓EU_draw, k2, k8, k9, k10, k17, k15, k14])⟩
            · have hc3 : decide (4294967296 ≤ r + v1) = false := decide_eq_false c3
              simp (maxSteps := 1000000) (disch := first | decide | omega | (simp only [go_sem]; first | done | omega)) only [go_sem, Int.reduceToNat, Nat.reduceMul, Nat.reduceAdd, Nat.reduceSub, ↓EU_region, ↓EU_draw, gq, gr, k2, k8, k9, k10, k17, k15, k14, wq1, wr1, hc3]
              exact ⟨0, by rw [if_pos (by omega)]; decide, _, q - 1, r + v1, rfl, (if_neg (by omega)).symm, by simp (maxSteps := 1000000) (disch := first | decide | omega | (simp only [go_sem]; first | done | omega)) only [go_sem, Int.reduceToNat, Nat.reduceMul, Nat.reduceAdd, Nat.reduceSub, ↓EU_region, ↓EU_draw], by simp (maxSteps := 1000000) (disch := first | decide | omega | (simp only [go_sem]; first | done | omega)) only [go_sem, Int.reduceToNat, Nat.reduceMul, Nat.reduceAdd, Nat.reduceSub, ↓EU_region, ↓EU_draw], (by refine ⟨?_, ?_, ?_, ?_, ?_, ?_, ?_⟩ <;> simp (maxSteps := 1000000) (disch := first | decide | omega | (simp only [go_sem]; first | done | omega)) only [go_sem, Int.reduceToNat, Nat.reduceMul, Nat.reduceAdd, Nat.reduceSub, ↓EU_region, ↓EU_draw, k2, k8, k9, k10, k17, k15, k14]), by omega, by omega, by omega, by omega, hqr'⟩
          · have hc1 : decide (4294967296 ≤ q) = false := decide_eq_false c1
            have hq0v := mul_range (a := q) (b := v0) (by omega) (by omega)
            have wq := wU64 (n := q * v0) (by omega)
            have wr := wU64 (n := 4294967296 * r) (by omega)
            have wrd := wU64 (n := 4294967296 * r + d0) (by omega)
            by_cases c2 : 4294967296 * r + d0 < q * v0
            · have hc2 : decide (4294967296 * r + d0 < q * v0) = true := decide_eq_true c2
              have hlt := digit_L3 (by omega) K2.1 hqr c2
              simp (maxSteps := 1000000) (disch := first | decide | omega | (simp only [go_sem]; first | done | omega)) only [go_sem, Int.reduceToNat, Nat.reduceMul, Nat.reduceAdd, Nat.reduceSub, ↓EU_region, ↓EU_draw, gq, gr, k2, k8, k9, k10, k17, k15, k14, hc1, hc2, wq, wr, wrd]
              have hlt' : q0 < q := (by omega)
              have wq1 := wU64 (n := q - 1) (by omega)
              have wr1 := wU64 (n := r + v1) (by omega)
              have hqr' : (q - 1) * v1 + (r + v1) = u21 := by rw [← hqr]; grind
              by_cases c3 : 4294967296 ≤ r + v1
              · have hc3 : decide (4294967296 ≤ r + v1) = true := decide_eq_true c3
                have hle := digit_L2 (by omega) K2.2.1 hqr' (digit_L4 hv0 (by omega) c3 (by omega))
                simp (maxSteps := 1000000) (disch := first | decide | omega | (simp only [go_sem]; first | done | omega)) only [go_sem, Int.reduceToNat, Nat.reduceMul, Nat.reduceAdd, Nat.reduceSub, ↓EU_region, ↓EU_draw, gq, gr, k2, k8, k9, k10, k17, k15, k14, wq1, wr1, hc3]
                exact ⟨_, rfl, trivial, by simp (maxSteps := 1000000) (disch := first | decide | omega | (simp only [go_sem]; first | done | omega)) only [go_sem, Int.reduceToNat, Nat.reduceMul, Nat.reduceAdd, Nat.reduceSub, ↓EU_region, ↓EU_draw]; rw [show q - 1 = q0 by omega], (by refine ⟨?_, ?_, ?_, ?_, ?_, ?_, ?_⟩ <;> simp (maxSteps := 1000000) (disch := first | decide | omega | (simp only [go_sem]; first | done | omega)) only [go_sem, Int.reduceToNat, Nat.reduceMul, Nat.reduceAdd, Nat.reduceSub, ↓EU_region, ↓EU_draw, k2, k8, k9, k10, k17, k15, k14])⟩
              · have hc3 : decide (4294967296 ≤ r + v1) = false := decide_eq_false c3
                simp (maxSteps := 1000000) (disch := first | decide | omega | (simp only [go_sem]; first | done | omega)) only [go_sem, Int.reduceToNat, Nat.reduceMul, Nat.reduceAdd, Nat.reduceSub, ↓EU_region, ↓EU_draw, gq, gr, k2, k8, k9, k10, k17, k15, k14, wq1, wr1, hc3]
                exact ⟨0, by rw [if_pos (by omega)]; decide, _, q - 1, r + v1, rfl, (if_neg (by omega)).symm, by simp (maxSteps := 1000000) (disch := first | decide | omega | (simp only [go_sem]; first | done | omega)) only [go_sem, Int.reduceToNat, Nat.reduceMul, Nat.reduceAdd, Nat.reduceSub, ↓EU_region, ↓EU_draw], by simp (maxSteps := 1000000) (disch := first | decide | omega | (simp only [go_sem]; first | done | omega)) only [go_sem, Int.reduceToNat, Nat.reduceMul, Nat.reduceAdd, Nat.reduceSub, ↓EU_region, ↓EU_draw], (by refine ⟨?_, ?_, ?_, ?_, ?_, ?_, ?_⟩ <;> simp (maxSteps := 1000000) (disch := first | decide | omega | (simp only [go_sem]; first | done | omega)) only [go_sem, Int.reduceToNat, Nat.reduceMul, Nat.reduceAdd, Nat.reduceSub, ↓EU_region, ↓EU_draw, k2, k8, k9, k10, k17, k15, k14]), by omega, by omega, by omega, by omega, hqr'⟩
            · have hc2 : decide (4294967296 * r + d0 < q * v0) = false := decide_eq_false c2
              have hle := digit_L2 (by omega) K2.2.1 hqr (by omega)
              simp (maxSteps := 1000000) (disch := first | decide | omega | (simp only [go_sem]; first | done | omega)) only [go_sem, Int.reduceToNat, Nat.reduceMul, Nat.reduceAdd, Nat.reduceSub, ↓EU_region, ↓EU_draw, gq, gr, k2, k8, k9, k10, k17, k15, k14, hc1, hc2, wq, wr, wrd]
              exact ⟨_, rfl, trivial, by simp (maxSteps := 1000000) (disch := first | decide | omega | (simp only [go_sem]; first | done | omega)) only [go_sem, Int.reduceToNat, Nat.reduceMul, Nat.reduceAdd, Nat.reduceSub, ↓EU_region, ↓EU_draw, gq]; rw [show q = q0 by omega], (by refine ⟨?_, ?_, ?_, ?_, ?_, ?_, ?_⟩ <;> simp (maxSteps := 1000000) (disch := first | decide | omega | (simp only [go_sem]; first | done | omega)) only [go_sem, Int.reduceToNat, Nat.reduceMul, Nat.reduceAdd, Nat.reduceSub, ↓EU_region, ↓EU_draw, k2, k8, k9, k10, k17, k15, k14])⟩
        · exact ⟨_, gg, _, rfl, rfl, by simp (maxSteps := 1000000) (disch := first | decide | omega | (simp only [go_sem]; first | done | omega)) only [go_sem, Int.reduceToNat, Nat.reduceMul, Nat.reduceAdd, Nat.reduceSub, ↓EU_region, ↓EU_draw], by simp (maxSteps := 1000000) (disch := first | decide | omega | (simp only [go_sem]; first | done | omega)) only [go_sem, Int.reduceToNat, Nat.reduceMul, Nat.reduceAdd, Nat.reduceSub, ↓EU_region, ↓EU_draw], ⟨by simp (maxSteps := 1000000) (disch := first | decide | omega | (simp only [go_sem]; first | done | omega)) only [go_sem, Int.reduceToNat, Nat.reduceMul, Nat.reduceAdd, Nat.reduceSub, ↓EU_region, ↓EU_draw, g2], by simp (maxSteps := 1000000) (disch := first | decide | omega | (simp only [go_sem]; first | done | omega)) only [go_sem, Int.reduceToNat, Nat.reduceMul, Nat.reduceAdd, Nat.reduceSub, ↓EU_region, ↓EU_draw, g8], by simp (maxSteps := 1000000) (disch := first | decide | omega | (simp only [go_sem]; first | done | omega)) only [go_sem, Int.reduceToNat, Nat.reduceMul, Nat.reduceAdd, Nat.reduceSub, ↓EU_region, ↓EU_draw, g9], by simp (maxSteps := 1000000) (disch := first | decide | omega | (simp only [go_sem]; first | done | omega)) only [go_sem, Int.reduceToNat, Nat.reduceMul, Nat.reduceAdd, Nat.reduceSub, ↓EU_region, ↓EU_draw, g10], by simp (maxSteps := 1000000) (disch := first | decide | omega | (simp only [go_sem]; first | done | omega)) only [go_sem, Int.reduceToNat, Nat.reduceMul, Nat.reduceAdd, Nat.reduceSub, ↓EU_region, ↓EU_draw], by simp (maxSteps := 1000000) (disch := first | decide | omega | (simp only [go_sem]; first | done | omega)) only [go_sem, Int.reduceToNat, Nat.reduceMul, Nat.reduceAdd, Nat.reduceSub, ↓EU_region, ↓EU_draw, gq], by simp (maxSteps := 1000000) (disch := first | decide | omega | (simp only [go_sem]; first | done | omega)) only [go_sem, Int.reduceToNat, Nat.reduceMul, Nat.reduceAdd, Nat.reduceSub, ↓EU_region, ↓EU_draw, g14]⟩, hgg1.1, hgg1.2, hrr.1, by omega, hqr0⟩
        · split <;> omega
        · rintro ⟨_, _⟩ ⟨tm, rfl, rfl, gq0, ⟨k2, k8, k9, k10, k17, k15, k14⟩⟩
          obtain ⟨r2, er2⟩ : ∃ z, u21 * 4294967296 + d0 - q0 * v = z := ⟨_, rfl⟩
          have hq0v : q0 * v ≤ u21 * 4294967296 + d0 ∧ u21 * 4294967296 + d0 < (q0 + 1) * v := by rw [← hvv]; exact ⟨K2.1, K2.2.1⟩
          rw [Int.add_mul, Int.one_mul] at hq0v
          have hr2 : 0 ≤ r2 ∧ r2 < v := by omega
          have wu2 : wrapF .u64 (wrapF .u64 (wrapF .u64 (u21 * 4294967296) + d0) - wrapF .u64 (q0 * v)) = r2 := by
            rw [wU64_mod, wU64_mod, wU64_mod, wU64_mod]; omega
          have wqq : wrapF .u64 (wrapF .u64 (q1 * 4294967296) + q0) = q1 * 4294967296 + q0 := by
            rw [wU64 (n := q1 * 4294967296) (by omega), wU64 (by omega)]
          have hfin := div_final (hi := hi) (lo := lo) (y := y) (p := p) (r := rr) hp hy.1 ev eu hws hdd eu21 er2 hr2
          rw [hfin.1, hfin.2]
          simp (maxSteps := 1000000) (disch := first | decide | omega | (simp only [go_sem]; first | done | omega)) only [go_sem, Int.reduceToNat, Nat.reduceMul, Nat.reduceAdd, Nat.reduceSub, ↓EU_region, ↓EU_draw, dec_t, dec_f, gq0, k2, k8, k9, k10, k17, k15, k14, wu2, wqq, hshr2]
  obtain ⟨q, e, rfl⟩ := this
  exact e
end Go.Proofs.Ytoomhlfogeglcaa.EV
