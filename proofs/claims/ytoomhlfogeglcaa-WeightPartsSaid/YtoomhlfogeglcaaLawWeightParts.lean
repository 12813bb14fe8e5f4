/- WeightParts answers true, whatever comes in; no condition beyond the given row's. Out of the plain theorem of YtoomhlfogeglcaaLawWParts, by a program of this session. -/
import Derived.Test.YtoomhlfogeglcaaRows
import Derived.Test.YtoomhlfogeglcaaLawWParts
import Derived.WalkKit
import Derived.ProofKit
import Derived.OpenShut
import Derived.ShutString
import Derived.ChangeOld
import Derived.Below
import Derived.SizedLaws
import Derived.Lib.SmallJoins
namespace Go.Proofs.Ytoomhlfogeglcaa.weightParts
open Go.ChangeShapes Go.WideShapes Go.ChangeAt Go.RowKit Go.Joins
open Go.ChangeMaps (open_string shut_string)
set_option linter.unusedVariables false
set_option linter.unusedSimpArgs false
theorem own : ownKnob Try.prog.godebug = none := by kernel_rfl
theorem laidOut : laidOutB Try.prog = true := by kernel_rfl
set_option maxRecDepth 100000 in
theorem names : (Try.prog.funcs.toList.all fun fn => !(fn.name == "runtime.NumGoroutine")) = true := by decide +kernel
set_option maxRecDepth 100000 in
theorem lifted (os : Os) (started : os.Started) (H : Type) (enc : TypeId × Value → H) :
    ReturnsInHanded {} Try.checked os 5 .any (Rows.weightPartsSpec.pre6 enc Try.prog Try.f5 Rows.weightPartsRow.domain false) (Rows.weightPartsSpec.post enc Try.prog Try.f5 false true false false) := by
  refine returnsInHanded_of_change_sized (C := Try.checked) own started (by kernel_rfl) Try.func5
    (ChangeSpec.witness6 (enc := enc) (C := Try.checked) false ⟨#[], #[.slice none 0 0, .int .i64 0], []⟩ 8 (by kernel_rfl) (by kernel_rfl) (by kernel_rfl) (by kernel_rfl)) ?_
  intro W base args ds gs before hval0 hW hcnd hsz0 _
  have hval : ∀ (j : Nat) t v, Try.f5.params[j]? = some t → args[j]? = some v → Value.okWide Try.prog W .any base t v := hval0
  have hW' := hW
  obtain ⟨p, q, hA0, hV, rfl, hfz, hnd⟩ := hW
  have hA : DataW.TrodAll enc Try.prog W 0 (fun _ => true) true Try.f5.params.toList args.toList ds p := hA0
  rw [Try.params5] at hA hval
  obtain ⟨v0, vs0, d0, ds0, p0, q0, hargs, rfl, rfl, h0, r0⟩ := trodAll_cons hA
  obtain ⟨v1, vs1, d1, ds1, p1, q1, rfl, rfl, rfl, h1, r1⟩ := trodAll_cons r0
  obtain ⟨rfl, rfl, rfl⟩ := trodAll_nil r1
  obtain rfl : args = #[v0, v1] := by cases args; simp_all
  obtain ⟨rfl, rfl⟩ := trodVars_none hV
  have G0 := EV.HR.start W
  have k0 := h0
  have lt0 : ∀ x ∈ p0, x.block < W.heap.size := by obtain ⟨m, hm⟩ := k0; exact DataW.trod_lt m _ _ _ hm
  obtain ⟨fu0, hf0⟩ := h0
  obtain ⟨a00, len00, cap00, ev0⟩ := okWide_slice Try.underlying27 (hval 0 27 v0 rfl rfl)
  have hf'0 := hf0
  rw [ev0] at hf'0
  simp only [Value.cells] at hf'0
  obtain ⟨A0, n0, m0, xs0, e0, R0, lm0, w0⟩ := EV.open_row (e := EV.intE .i64) (es := 1) (Wf := (fun z => (Lit.int .i64 z).wf = true)) Try.underlying27 (by kernel_rfl) (fun _ => rfl) (EV.open_int1 Try.underlying3) (fun ad len cap e => by have := (hval 0 27 v0 rfl rfl); rw [ev0, e] at this; exact EV.valOk_slice Try.underlying27 this) hf'0
  rw [e0] at ev0
  subst ev0
  obtain ⟨N1, H1, u0, G1, X1, V0, S0, L0⟩ := EV.add_row (e := EV.intE .i64) G0 (fun _ => rfl) (by decide) (EV.intE_flat xs0) R0
  obtain ⟨c1, rfl, rfl, rfl, w1⟩ := open_int Try.underlying2 (hval 1 2 v1 rfl rfl) h1
  refine (EV.EF_calls (args := [u0, .int .i64 c1]) (fun fn hf e => by have := List.all_eq_true.1 names fn hf; rw [e] at this; simp at this) (by kernel_rfl) EV.O0_sound G1 (EV.LR.cons (V0) (EV.LR.cons (EV.VR.int _ _) (EV.LR.nil _))) (EV.law_WeightParts H1 u0 (xs0.take n0) S0 (fun z hz => w0 z (List.mem_of_mem_take hz)) c1 w1)).mono fun e W' ⟨he, bel⟩ => ?_
  subst he
  exact ⟨_, rfl, _, _, _, [], _, [], hW', trodAll_mk1 (shut_bool Try.underlying4 _), (trodAll_cons_mk (Below.trod laidOut (by kernel_rfl) (of_decide_eq_true (by kernel_rfl)) k0 bel lt0) (trodAll_cons_mk (shut_int Try.underlying2 w1) trodAll_mk0)), rfl, bel.frame _, fun h => by cases h⟩
theorem over : Rows.weightPartsRow.holds Try.pinned (OpenSpec.ofChange Rows.weightPartsSpec) :=
  OpenClaim.holds_of_wide 5 Try.f5 rfl rfl rfl rfl rfl rfl rfl ⟨rfl, rfl, rfl, rfl, rfl⟩ rfl rfl rfl rfl rfl (by kernel_rfl) Try.func5 (by kernel_rfl)
    (of_decide_eq_true (by kernel_rfl)) (by unfold Func.isWrapper; first | (rw [if_pos (by decide +kernel)]; kernel_rfl) | (rw [if_neg (by decide +kernel)]; exact ⟨rfl, rfl⟩))
    (fun os started H enc _ => lifted os started H enc)
theorem proved : Rows.WeightPartsSaid := over
#print axioms proved
end Go.Proofs.Ytoomhlfogeglcaa.weightParts
namespace Go.Proofs.Ytoomhlfogeglcaa
/-- The row, under a short name, for the claim. -/
theorem weightParts_holds : Rows.WeightPartsSaid := weightParts.proved
end Go.Proofs.Ytoomhlfogeglcaa
