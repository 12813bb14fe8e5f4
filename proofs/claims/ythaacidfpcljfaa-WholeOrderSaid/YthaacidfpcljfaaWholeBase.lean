/-
  Package whole (layer 1): what the printed functions answer, as plain arithmetic on whole numbers. No condition but that the numbers are 64-bit numbers (or sums and products of them).
-/
import Derived.Test.YthaacidfpcljfaaPAx5
import Derived.Test.YthaacidfpcljfaaPAx6
import Derived.Test.YthaacidfpcljfaaPAx7
import Derived.OpenShut
namespace Go.Proofs.Ythaacidfpcljfaa.Pure
open Go.RowKit Go.Proofs.Ythaacidfpcljfaa.PA Go.Proofs.YthaacidfpcljfaaW.PrintWords Go.Proofs.YthaacidfpcljfaaW.PrintLast

def I64 (a : Int) : Prop := -9223372036854775808 ≤ a ∧ a ≤ 9223372036854775807
/-- well within 128 bits -/
def I127 (a : Int) : Prop := -85070591730234615865843651857942052864 ≤ a ∧ a ≤ 85070591730234615865843651857942052864
def fit (v : Int) : Int × Bool := if -9223372036854775808 ≤ v ∧ v ≤ 9223372036854775807 then (v, true) else (0, false)
def cmp3 (u v : Int) : Int := if u < v then -1 else if u > v then 1 else 0

theorem wf_i64 {a : Int} (h : (Lit.int .i64 a).wf = true) : I64 a := by
  exact bounds_i64 h

theorem of_is {a : Int} (h : I64 a) : whole_of.f a = some (a / 18446744073709551616, a % 18446744073709551616) := by
  unfold whole_of.f I64 at *
  rw [IntKind.wrap_u64]
  congr 2
  omega
theorem add_is {u v : Int} (hu : I127 (u + v)) : whole_wide_add.f (u / 18446744073709551616) (u % 18446744073709551616) (v / 18446744073709551616) (v % 18446744073709551616) = some ((u + v) / 18446744073709551616, (u + v) % 18446744073709551616) := by
  unfold whole_wide_add.f I127 at *
  rw [if_pos (by omega)]
  congr 2
  · unfold wrap64; omega
  · omega
theorem small_is {v : Int} : whole_wide_small.f (v / 18446744073709551616) (v % 18446744073709551616) = some (fit v) := by
  unfold whole_wide_small.f fit
  by_cases c : -9223372036854775808 ≤ v ∧ v ≤ 9223372036854775807
  · rw [if_pos c, if_pos (by unfold wrap64; omega)]
    congr 2
    unfold wrap64; omega
  · rw [if_neg c, if_neg (by unfold wrap64; omega)]
theorem Add_is {a b : Int} (ha : I64 a) (hb : I64 b) : whole_Add.f a b = some (fit (a + b)) := by
  unfold whole_Add.f
  rw [of_is ha, of_is hb]
  simp only [Option.bind_some]
  rw [add_is (by unfold I64 I127 at *; omega)]
  simp only [Option.bind_some]
  rw [small_is]
  rfl
theorem xor_max {x : Int} (h0 : 0 ≤ x) (h1 : x < 18446744073709551616) : Go.bits .xor .u64 18446744073709551615 x = 18446744073709551615 - x := by
  obtain ⟨n, rfl⟩ := Int.eq_ofNat_of_zero_le h0
  unfold Go.bits
  simp only [IntKind.wrap_u64]
  have e : BitVec.ofInt IntKind.u64.bits 18446744073709551615 ^^^ BitVec.ofInt IntKind.u64.bits (n : Int) = ~~~ (BitVec.ofInt IntKind.u64.bits (n : Int)) := by
    rw [show BitVec.ofInt IntKind.u64.bits 18446744073709551615 = BitVec.allOnes IntKind.u64.bits from by decide +kernel, BitVec.allOnes_xor]
  rw [e, BitVec.toNat_not, BitVec.toNat_ofInt, show (2 ^ IntKind.u64.bits : Nat) = 18446744073709551616 from rfl]
  omega
theorem minus_is {v : Int} (hv : I127 v) : whole_wide_minus.f (v / 18446744073709551616) (v % 18446744073709551616) = some ((-v) / 18446744073709551616, (-v) % 18446744073709551616) := by
  unfold whole_wide_minus.f
  rw [IntKind.wrap_u64, xor_max (by omega) (by omega), xor_max (by omega) (by omega)]
  unfold whole_wide_add.f I127 at *
  rw [if_pos (by omega)]
  simp only [Option.bind_some]
  congr 2
  · unfold wrap64; omega
  · omega
theorem bnd {α β : Type} {o : Option α} {x : α} {f : α → Option β} {r : β} (h : o = some x) (g : f x = some r) : o.bind f = some r := by
  rw [h]; exact g
theorem Sub_is {a b : Int} (ha : I64 a) (hb : I64 b) : whole_Sub.f a b = some (fit (a - b)) := by
  have h1 : I127 b := by unfold I64 I127 at *; omega
  have h2 : I127 (a + -b) := by unfold I64 I127 at *; omega
  have e : a - b = a + -b := by omega
  rw [e]
  exact bnd (of_is ha) (bnd (of_is hb) (bnd (minus_is h1) (bnd (add_is h2) (bnd small_is rfl))))
theorem size_is {a : Int} (ha : I64 a) : whole_size.f a = some (a.natAbs : Int) := by
  unfold whole_size.f I64 at *
  simp only [IntKind.wrap_u64]
  split <;> (congr 1; omega)
theorem and_low {x : Int} (h0 : 0 ≤ x) (h1 : x < 18446744073709551616) : Go.bits .and .u64 x 4294967295 = x % 4294967296 := by
  obtain ⟨n, rfl⟩ := Int.eq_ofNat_of_zero_le h0
  exact bits_mask .u64 64 (by decide) (fun n h0 h1 => by rw [IntKind.wrap_u64]; simp at h1; omega) 32 (by decide) n (by omega) (by simp; omega)
theorem mul_bound {x y : Int} (x0 : 0 ≤ x) (x1 : x < 4294967296) (y0 : 0 ≤ y) (y1 : y < 4294967296) : 0 ≤ x * y ∧ x * y ≤ 18446744065119617025 := by
  constructor
  · exact Int.mul_nonneg x0 y0
  · have : x * y ≤ 4294967295 * 4294967295 := Int.mul_le_mul (by omega) (by omega) y0 (by omega)
    omega
theorem Mul64_is {x y : Int} (x0 : 0 ≤ x) (x1 : x < 18446744073709551616) (y0 : 0 ≤ y) (y1 : y < 18446744073709551616) : bits_Mul64.f x y = some ((x * y) / 18446744073709551616, (x * y) % 18446744073709551616) := by
  unfold bits_Mul64.f
  rw [and_low x0 x1, and_low y0 y1]
  have ex : x = (x / 4294967296) * 4294967296 + x % 4294967296 := by omega
  have ey : y = (y / 4294967296) * 4294967296 + y % 4294967296 := by omega
  generalize hxa : x / 4294967296 = xa at *
  generalize hxb : x % 4294967296 = xb at *
  generalize hya : y / 4294967296 = ya at *
  generalize hyb : y % 4294967296 = yb at *
  have b1 := mul_bound (x := xa) (y := ya) (by omega) (by omega) (by omega) (by omega)
  have b2 := mul_bound (x := xa) (y := yb) (by omega) (by omega) (by omega) (by omega)
  have b3 := mul_bound (x := xb) (y := ya) (by omega) (by omega) (by omega) (by omega)
  have b4 := mul_bound (x := xb) (y := yb) (by omega) (by omega) (by omega) (by omega)
  have e : x * y = xa * ya * 18446744073709551616 + (xa * yb + xb * ya) * 4294967296 + xb * yb := by
    rw [ex, ey]
    simp only [Int.add_mul, Int.mul_add]
    have e1 : xa * 4294967296 * (ya * 4294967296) = xa * ya * 18446744073709551616 := by
      rw [show (18446744073709551616 : Int) = 4294967296 * 4294967296 from rfl]
      ac_rfl
    have e2 : xb * (ya * 4294967296) = xb * ya * 4294967296 := by ac_rfl
    have e3 : xa * 4294967296 * yb = xa * yb * 4294967296 := by ac_rfl
    rw [e1, e2, e3]
    omega
  rw [e]
  generalize xa * ya = p at *
  generalize xa * yb = q at *
  generalize xb * ya = r at *
  generalize xb * yb = s at *
  simp only [IntKind.wrap_u64]
  rw [and_low (by omega) (by omega)]
  congr 2
  omega
theorem prod_bound {x y m n : Int} (hx : -m ≤ x ∧ x ≤ m) (hy : -n ≤ y ∧ y ≤ n) (hm : 0 ≤ m) (hn : 0 ≤ n) : -(m * n) ≤ x * y ∧ x * y ≤ m * n := by
  have h : (x * y).natAbs ≤ m.natAbs * n.natAbs := by
    rw [Int.natAbs_mul]
    exact Nat.mul_le_mul (by omega) (by omega)
  have h2 : ((m.natAbs * n.natAbs : Nat) : Int) = m * n := by
    rw [Int.natCast_mul]; congr 1 <;> omega
  omega
theorem prod_in {a b : Int} (ha : I64 a) (hb : I64 b) : I127 (a * b) := by
  unfold I64 I127 at *
  have := prod_bound (x := a) (y := b) (m := 9223372036854775808) (n := 9223372036854775808) (by omega) (by omega) (by omega) (by omega)
  omega
theorem mul_is {a b : Int} (ha : I64 a) (hb : I64 b) : whole_mul.f a b = some ((a * b) / 18446744073709551616, (a * b) % 18446744073709551616) := by
  unfold whole_mul.f
  rw [size_is ha, size_is hb]
  simp only [Option.bind_some]
  rw [Mul64_is (by unfold I64 at *; omega) (by unfold I64 at *; omega) (by unfold I64 at *; omega) (by unfold I64 at *; omega)]
  simp only [Option.bind_some]
  have hp := prod_in ha hb
  have e : ((a.natAbs : Int) * (b.natAbs : Int)) = ((a * b).natAbs : Int) := by rw [Int.natAbs_mul]; simp
  rw [e]
  have w : wrap64 (((a * b).natAbs : Int) / 18446744073709551616) = ((a * b).natAbs : Int) / 18446744073709551616 := by
    unfold I127 at hp; unfold wrap64; omega
  rw [w]
  by_cases c : (decide (a < 0) != decide (b < 0)) = true
  · rw [if_pos c, minus_is (by unfold I127 at *; omega)]
    simp only [Option.bind_some]
    have : a * b ≤ 0 := by
      by_cases c1 : a < 0
      · have c2 : ¬ b < 0 := by intro c2; simp [c1, c2] at c
        exact Int.mul_nonpos_of_nonpos_of_nonneg (by omega) (by omega)
      · have c2 : b < 0 := by
          by_cases c2 : b < 0
          · exact c2
          · simp [c1, c2] at c
        exact Int.mul_nonpos_of_nonneg_of_nonpos (by omega) (by omega)
    have e2 : -((a * b).natAbs : Int) = a * b := by omega
    rw [e2]
  · rw [if_neg c]
    have : 0 ≤ a * b := by
      by_cases c1 : a < 0
      · have c2 : b < 0 := by
          by_cases c2 : b < 0
          · exact c2
          · simp [c1, c2] at c
        exact Int.mul_nonneg_of_nonpos_of_nonpos (by omega) (by omega)
      · have c2 : ¬ b < 0 := by intro c2; simp [c1, c2] at c
        exact Int.mul_nonneg (by omega) (by omega)
    have e2 : ((a * b).natAbs : Int) = a * b := by omega
    rw [e2]
theorem Mul_is {a b : Int} (ha : I64 a) (hb : I64 b) : whole_Mul.f a b = some (fit (a * b)) := by
  unfold whole_Mul.f
  rw [mul_is ha hb]
  simp only [Option.bind_some]
  rw [small_is]
  rfl
theorem Compare_i {a b : Int} : cmp_Compare_int64.f a b = some (cmp3 a b) := by
  unfold cmp_Compare_int64.f cmp_isNaN_int64.f cmp3
  simp only [Option.bind_some, bne_self_eq_false, Bool.false_eq_true, if_false]
  repeat' split
  all_goals first | rfl | omega
theorem Compare_u {a b : Int} : cmp_Compare_uint64.f a b = some (cmp3 a b) := by
  unfold cmp_Compare_uint64.f cmp_isNaN_uint64.f cmp3
  simp only [Option.bind_some, bne_self_eq_false, Bool.false_eq_true, if_false]
  repeat' split
  all_goals first | rfl | omega
theorem cmp_is {u v : Int} : whole_wide_cmp.f (u / 18446744073709551616) (u % 18446744073709551616) (v / 18446744073709551616) (v % 18446744073709551616) = some (cmp3 u v) := by
  unfold whole_wide_cmp.f
  rw [Compare_i]
  simp only [Option.bind_some]
  rw [Compare_u]
  simp only [Option.bind_some]
  unfold cmp3
  repeat' split
  all_goals first | rfl | omega
theorem CmpMul_is {a b c d : Int} (ha : I64 a) (hb : I64 b) (hc : I64 c) (hd : I64 d) : whole_CmpMul.f a b c d = some (cmp3 (a * b) (c * d)) := by
  unfold whole_CmpMul.f
  rw [mul_is ha hb, mul_is hc hd]
  simp only [Option.bind_some]
  rw [cmp_is]
  rfl
theorem awake_is : Ev (fun k => stadholderlaw1_awake.f k) true := by
  refine ⟨10, fun k hk => ?_⟩
  obtain ⟨d, rfl⟩ := Nat.exists_eq_add_of_le hk
  clear hk
  induction d with
  | zero => decide +kernel
  | succ d ih => exact (stadholderlaw1_awake.mono (10 + d) _ ih)

/-- what was multiplied is divided again -/
theorem MulDiv_back {a b : Int} (k : Nat) (ha : I64 a) (hb : I64 b) (hp : I64 (a * b)) (h : b ≠ 0) : whole_MulDiv.f k (a * b) 1 b = some (a, true) := by
  unfold whole_MulDiv.f
  rw [if_neg h, size_is hp, size_is hb, show whole_size.f 1 = some 1 from by decide +kernel]
  simp only [Option.bind_some]
  have n1 : ((a * b).natAbs : Int) < 18446744073709551616 := by unfold I64 at hp; omega
  rw [Mul64_is (by omega) n1 (by omega) (by omega), Int.mul_one]
  simp only [Option.bind_some]
  rw [if_neg (by omega)]
  unfold bits_Div64.f
  rw [if_neg (by omega), if_neg (by omega), if_pos (by omega)]
  simp only [Option.bind_some]
  rw [Int.emod_eq_of_lt (by omega) n1]
  have e : ((a * b).natAbs : Int) = (a.natAbs : Int) * (b.natAbs : Int) := by rw [Int.natAbs_mul]; simp
  have q : Int.tdiv ((a * b).natAbs : Int) (b.natAbs : Int) = (a.natAbs : Int) := by
    rw [e]; exact Int.mul_tdiv_cancel _ (by omega)
  have r : Int.tmod ((a * b).natAbs : Int) (b.natAbs : Int) = 0 := by
    rw [e]; exact Int.mul_tmod_left _ _
  rw [q, r]
  have w : IntKind.u64.wrap (a.natAbs : Int) = (a.natAbs : Int) := by rw [IntKind.wrap_u64]; unfold I64 at ha; omega
  rw [w]
  have s1 : 0 < b → (a * b < 0 ↔ a < 0) := fun hb0 => by
    constructor
    · intro hab
      apply Int.lt_of_not_ge
      intro h0
      have := Int.mul_nonneg h0 (Int.le_of_lt hb0)
      omega
    · intro h0; exact Int.mul_neg_of_neg_of_pos h0 hb0
  have s2 : b < 0 → (a * b < 0 ↔ 0 < a) := fun hb0 => by
    constructor
    · intro hab
      apply Int.lt_of_not_ge
      intro h0
      have := Int.mul_nonneg_of_nonpos_of_nonpos h0 (Int.le_of_lt hb0)
      omega
    · intro h0; exact Int.mul_neg_of_pos_of_neg h0 hb0
  unfold mulDivEnd
  simp only [IntKind.wrap_u64]
  unfold I64 at *
  have t1 : decide ((1 : Int) < 0) = false := by decide
  rw [t1]
  by_cases c : 0 < b
  · have c2 : decide (b < 0) = false := decide_eq_false (by omega)
    rw [c2]
    by_cases d : a < 0
    · have d2 : decide (a * b < 0) = true := decide_eq_true ((s1 c).mpr d)
      rw [d2]
      rw [if_pos ⟨rfl, by omega⟩, if_neg (by omega), if_neg (by omega), if_neg (by omega)]
      congr 2
      unfold wrap64; omega
    · have d2 : decide (a * b < 0) = false := decide_eq_false (fun x => d ((s1 c).mp x))
      rw [d2]
      rw [if_neg (by simp), if_neg (by omega)]
      congr 2
      unfold wrap64; omega
  · have c1 : b < 0 := by omega
    have c2 : decide (b < 0) = true := decide_eq_true c1
    rw [c2]
    by_cases d : 0 < a
    · have d2 : decide (a * b < 0) = true := decide_eq_true ((s2 c1).mpr d)
      rw [d2]
      rw [if_neg (by simp), if_neg (by omega)]
      congr 2
      unfold wrap64; omega
    · have d2 : decide (a * b < 0) = false := decide_eq_false (fun x => d ((s2 c1).mp x))
      rw [d2]
      by_cases z : a = 0
      · subst z
        decide +kernel
      · rw [if_pos ⟨rfl, by omega⟩, if_neg (by omega), if_neg (by omega), if_neg (by omega)]
        congr 2
        unfold wrap64; omega

end Go.Proofs.Ythaacidfpcljfaa.Pure
