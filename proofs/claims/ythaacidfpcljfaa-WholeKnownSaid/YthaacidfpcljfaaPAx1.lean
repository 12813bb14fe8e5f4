-- by a program of this session, out of the translation
import Derived.Test.YthaacidfpcljfaaPAx0
import Derived.Laws.Externs
namespace Go.Proofs.Ythaacidfpcljfaa.PA
open Go.RowKit Go.Proofs.YthaacidfpcljfaaW.PrintWords Go.Proofs.YthaacidfpcljfaaW.PrintLast Go.Proofs.YthaacidfpcljfaaW.PrintMore
attribute [local go_sem] max2_int min2_int max_two min_two max_three min_three max_four min_four   -- for this text's walks alone
set_option linter.unusedVariables false
set_option linter.unusedSimpArgs false

/-! ### whole_wide_add: function 27 (by hand) -/
--IMPORT Derived.Laws.Externs
def addLo (x y c : Int) : Int := (x + y + c) % 18446744073709551616
def addHi (x y c : Int) : Int := (x + y + c) / 18446744073709551616
theorem run_add (x y c : Int) (hx : 0 ≤ x) (hy : 0 ≤ y) (hc0 : 0 ≤ c) (hc : c ≤ 1) (w : World) :
    (callFunc 42 #[.int .u64 x, .int .u64 y, .int .u64 c]).run Try.prog w = .ok (.value (.tuple #[.int .u64 (addLo x y c), .int .u64 (addHi x y c)])) w := by
  rw [run_callFunc_extern Try.func42 (by kernel_rfl) (by kernel_rfl) (by kernel_rfl) (e := add64Entry) (by kernel_rfl), run_add64 x y c hx hy hc0 hc]
  rfl
def whole_wide_add.f (a0_0 : Int) (a0_1 : Int) (a1_0 : Int) (a1_1 : Int) : Option (Int × Int) :=
  if 0 ≤ a0_1 ∧ a0_1 < 18446744073709551616 ∧ 0 ≤ a1_1 ∧ a1_1 < 18446744073709551616 then some (wrap64 (a0_0 + a1_0 + (a0_1 + a1_1) / 18446744073709551616), (a0_1 + a1_1) % 18446744073709551616) else none
set_option maxHeartbeats 8000000 in
set_option maxRecDepth 100000 in
theorem whole_wide_add.calls (a0_0 a0_1 a1_0 a1_1 : Int) (r1 r2 : Int) (w : World) (h : whole_wide_add.f a0_0 a0_1 a1_0 a1_1 = some (r1, r2)) :
    Calls Try.prog 27 #[.agg #[.int .i64 a0_0, .int .u64 a0_1], .agg #[.int .i64 a1_0, .int .u64 a1_1]] w fun e w' => e = .returned (.agg #[.int .i64 r1, .int .u64 r2]) ∧ Below w.heap.size w w' := by
  have hu48 := Try.underlying48
  unfold whole_wide_add.f at h
  split at h
  case isFalse => cases h
  rename_i hh
  obtain ⟨h1, h2, h3, h4⟩ := hh
  simp only [Option.some.injEq, Prod.mk.injEq] at h
  obtain ⟨e1, e2⟩ := h
  have E1 : addLo a0_1 a1_1 0 = r2 := by unfold addLo; omega
  obtain ⟨x, hx⟩ : ∃ x, IntKind.u64.wrap a0_0 = x := ⟨_, rfl⟩
  obtain ⟨y, hy⟩ : ∃ y, IntKind.u64.wrap a1_0 = y := ⟨_, rfl⟩
  obtain ⟨c, hc⟩ : ∃ c, addHi a0_1 a1_1 0 = c := ⟨_, rfl⟩
  have hc01 : 0 ≤ c ∧ c ≤ 1 := by rw [← hc]; unfold addHi; omega
  have hxr : 0 ≤ x ∧ x < 18446744073709551616 ∧ x = a0_0 % 18446744073709551616 := by rw [← hx]; simp [IntKind.wrap, IntKind.bits, IntKind.signed]; omega
  have hyr : 0 ≤ y ∧ y < 18446744073709551616 ∧ y = a1_0 % 18446744073709551616 := by rw [← hy]; simp [IntKind.wrap, IntKind.bits, IntKind.signed]; omega
  have E2 : wrap64 (addLo x y c) = r1 := by
    rw [← e1, ← hc, hxr.2.2, hyr.2.2]; unfold addLo addHi wrap64; omega
  have hr1 := fun w => run_add a0_1 a1_1 0 h1 h3 (by omega) (by omega) w
  have hr2 := fun w => run_add x y c hxr.1 hyr.1 hc01.1 hc01.2 w
  simp only [E1, hc] at hr1
  obtain ⟨z, hz⟩ : ∃ z, addLo x y c = z := ⟨_, rfl⟩
  obtain ⟨z2, hz2⟩ : ∃ z, addHi x y c = z := ⟨_, rfl⟩
  rw [hz] at E2
  simp only [hz, hz2] at hr2
  have E3 : IntKind.i64.wrap z = r1 := by rw [← E2]; exact i64_w z
  clear hz hz2 hxr hyr hc01 hc E1 e1 e2 h1 h2 h3 h4
  go_enter Try.func27, Try.ntmps27
  go_wp2
  exact bodyPost_ret (v := .agg #[.int .i64 r1, .int .u64 r2]) (by simp [results, Try.results27, go_sem]) rfl ⟨rfl, by repeat (first | exact Below.refl _ _ | apply below_alloc)⟩

end Go.Proofs.Ythaacidfpcljfaa.PA
