/- whole's wide numbers added: the model stands in for bits.Add64. No condition. -/
import Derived.Test.YthaacidfpcljfaaProg
import Derived.Below
import Derived.Lib.SmallJoins
import Derived.Deep.Draws
import Derived.WalkKit
import Derived.ProofKit
import Derived.KernelRfl
import Derived.Laws.Externs
namespace Go.Proofs.Ythaacidfpcljfaa.WA
open Go Go.Proofs Go.RowKit
set_option linter.unusedVariables false
set_option linter.unusedSimpArgs false
noncomputable def addLo (x y c : Int) : Int := (x + y + c) % 18446744073709551616
noncomputable def addHi (x y c : Int) : Int := (x + y + c) / 18446744073709551616
theorem run_add (x y c : Int) (hx : 0 ≤ x) (hy : 0 ≤ y) (hc0 : 0 ≤ c) (hc : c ≤ 1) (w : World) :
    (callFunc 42 #[.int .u64 x, .int .u64 y, .int .u64 c]).run Try.prog w = .ok (.value (.tuple #[.int .u64 (addLo x y c), .int .u64 (addHi x y c)])) w := by
  rw [run_callFunc_extern Try.func42 (by kernel_rfl) (by kernel_rfl) (by kernel_rfl) (e := add64Entry) (by kernel_rfl), run_add64 x y c hx hy hc0 hc]
  rfl
theorem i64_eq (n : Int) : IntKind.i64.wrap n = (n + 9223372036854775808) % 18446744073709551616 - 9223372036854775808 := by
  simp [IntKind.wrap, IntKind.bits, IntKind.signed]; omega
set_option maxHeartbeats 8000000 in
set_option maxRecDepth 100000 in
theorem wide_add_calls (a0_0 a0_1 a1_0 a1_1 : Int) (r1 r2 : Int) (w : World) (h : 0 ≤ a0_1 ∧ a0_1 < 18446744073709551616 ∧ 0 ≤ a1_1 ∧ a1_1 < 18446744073709551616) (e1 : IntKind.i64.wrap (a0_0 + a1_0 + (a0_1 + a1_1) / 18446744073709551616) = r1) (e2 : (a0_1 + a1_1) % 18446744073709551616 = r2) :
    Calls Try.prog 27 #[.agg #[.int .i64 a0_0, .int .u64 a0_1], .agg #[.int .i64 a1_0, .int .u64 a1_1]] w fun e w' => e = .returned (.agg #[.int .i64 r1, .int .u64 r2]) ∧ Below w.heap.size w w' := by
  have hu48 := Try.underlying48
  obtain ⟨h1, h2, h3, h4⟩ := h
  have E1 : addLo a0_1 a1_1 0 = r2 := by unfold addLo; omega
  obtain ⟨x, hx⟩ : ∃ x, IntKind.u64.wrap a0_0 = x := ⟨_, rfl⟩
  obtain ⟨y, hy⟩ : ∃ y, IntKind.u64.wrap a1_0 = y := ⟨_, rfl⟩
  obtain ⟨c, hc⟩ : ∃ c, addHi a0_1 a1_1 0 = c := ⟨_, rfl⟩
  have hc01 : 0 ≤ c ∧ c ≤ 1 := by rw [← hc]; unfold addHi; omega
  have hxr : 0 ≤ x ∧ x < 18446744073709551616 ∧ x = a0_0 % 18446744073709551616 := by rw [← hx]; simp [IntKind.wrap, IntKind.bits, IntKind.signed]; omega
  have hyr : 0 ≤ y ∧ y < 18446744073709551616 ∧ y = a1_0 % 18446744073709551616 := by rw [← hy]; simp [IntKind.wrap, IntKind.bits, IntKind.signed]; omega
  have E2 : IntKind.i64.wrap (addLo x y c) = r1 := by
    rw [← e1, ← hc, hxr.2.2, hyr.2.2, i64_eq, i64_eq]; unfold addLo addHi; omega
  have hr1 := fun w => run_add a0_1 a1_1 0 h1 h3 (by omega) (by omega) w
  have hr2 := fun w => run_add x y c hxr.1 hyr.1 hc01.1 hc01.2 w
  simp only [E1, hc] at hr1
  obtain ⟨z, hz⟩ : ∃ z, addLo x y c = z := ⟨_, rfl⟩
  obtain ⟨z2, hz2⟩ : ∃ z, addHi x y c = z := ⟨_, rfl⟩
  rw [hz] at E2
  simp only [hz, hz2] at hr2
  clear hz hz2 hxr hyr hc01 hc E1 e1 e2 h1 h2 h3 h4
  go_enter Try.func27, Try.ntmps27
  go_wp2
  exact bodyPost_ret (v := .agg #[.int .i64 r1, .int .u64 r2]) (by simp [results, Try.results27, go_sem]) rfl ⟨rfl, Go.Joins.below_alloc3 _ _ _ _⟩
end Go.Proofs.Ythaacidfpcljfaa.WA
