/- WeightSays answers true, whatever comes in; no condition beyond the given row's. Out of the plain theorem of YtoomhlfogeglcaaLawWtSays, by a program of this session. -/
import Derived.Test.YtoomhlfogeglcaaRows
import Derived.Test.YtoomhlfogeglcaaLawWtSays
import Derived.WalkKit
import Derived.ProofKit
import Derived.OpenShut
import Derived.ShutString
import Derived.ChangeOld
import Derived.Below
import Derived.SizedLaws
import Derived.Lib.SmallJoins
namespace Go.Proofs.Ytoomhlfogeglcaa.weightSays
open Go.ChangeShapes Go.WideShapes Go.ChangeAt Go.RowKit Go.Joins
open Go.ChangeMaps (open_string shut_string)
set_option linter.unusedVariables false
set_option linter.unusedSimpArgs false
theorem own : ownKnob Try.prog.godebug = none := by kernel_rfl
theorem laidOut : laidOutB Try.prog = true := by kernel_rfl
set_option maxRecDepth 100000 in
theorem names : (Try.prog.funcs.toList.all fun fn => !(fn.name == "runtime.NumGoroutine")) = true := by decide +kernel
set_option maxRecDepth 100000 in
theorem lifted (os : Os) (started : os.Started) (H : Type) (enc : TypeId × Value → H) :
    ReturnsInHanded {} Try.checked os 4 .any (Rows.weightSaysSpec.pre6 enc Try.prog Try.f4 Rows.weightSaysRow.domain false) (Rows.weightSaysSpec.post enc Try.prog Try.f4 false true false false) := by
  refine returnsInHanded_of_change_sized (C := Try.checked) own started (by kernel_rfl) Try.func4
    (ChangeSpec.witness6 (enc := enc) (C := Try.checked) false ⟨#[], #[.int .i64 0, .int .i64 0, .int .i64 0, .int .i64 0, .slice none 0 0], []⟩ 8 (by kernel_rfl) (by kernel_rfl) (by kernel_rfl) (by kernel_rfl)) ?_
  intro W base args ds gs before hval0 hW hcnd hsz0 _
  have hval : ∀ (j : Nat) t v, Try.f4.params[j]? = some t → args[j]? = some v → Value.okWide Try.prog W .any base t v := hval0
  have hW' := hW
  obtain ⟨p, q, hA0, hV, rfl, hfz, hnd⟩ := hW
  have hA : DataW.TrodAll enc Try.prog W 0 (fun _ => true) true Try.f4.params.toList args.toList ds p := hA0
  rw [Try.params4] at hA hval
  obtain ⟨v0, vs0, d0, ds0, p0, q0, hargs, rfl, rfl, h0, r0⟩ := trodAll_cons hA
  obtain ⟨v1, vs1, d1, ds1, p1, q1, rfl, rfl, rfl, h1, r1⟩ := trodAll_cons r0
  obtain ⟨v2, vs2, d2, ds2, p2, q2, rfl, rfl, rfl, h2, r2⟩ := trodAll_cons r1
  obtain ⟨v3, vs3, d3, ds3, p3, q3, rfl, rfl, rfl, h3, r3⟩ := trodAll_cons r2
  obtain ⟨v4, vs4, d4, ds4, p4, q4, rfl, rfl, rfl, h4, r4⟩ := trodAll_cons r3
  obtain ⟨rfl, rfl, rfl⟩ := trodAll_nil r4
  obtain rfl : args = #[v0, v1, v2, v3, v4] := by cases args; simp_all
  obtain ⟨rfl, rfl⟩ := trodVars_none hV
  have G0 := EV.HR.start W
  obtain ⟨c0, rfl, rfl, rfl, w0⟩ := open_int Try.underlying3 (hval 0 3 v0 rfl rfl) h0
  obtain ⟨c1, rfl, rfl, rfl, w1⟩ := open_int Try.underlying3 (hval 1 3 v1 rfl rfl) h1
  obtain ⟨c2, rfl, rfl, rfl, w2⟩ := open_int Try.underlying2 (hval 2 2 v2 rfl rfl) h2
  obtain ⟨c3, rfl, rfl, rfl, w3⟩ := open_int Try.underlying2 (hval 3 2 v3 rfl rfl) h3
  have k4 := h4
  have lt4 : ∀ x ∈ p4, x.block < W.heap.size := by obtain ⟨m, hm⟩ := k4; exact DataW.trod_lt m _ _ _ hm
  obtain ⟨fu4, hf4⟩ := h4
  obtain ⟨a04, len04, cap04, ev4⟩ := okWide_slice Try.underlying27 (hval 4 27 v4 rfl rfl)
  have hf'4 := hf4
  rw [ev4] at hf'4
  simp only [Value.cells] at hf'4
  obtain ⟨A4, n4, m4, xs4, e4, R4, lm4, w4⟩ := EV.open_row (e := EV.intE .i64) (es := 1) (Wf := (fun z => (Lit.int .i64 z).wf = true)) Try.underlying27 (by kernel_rfl) (fun _ => rfl) (EV.open_int1 Try.underlying3) (fun ad len cap e => by have := (hval 4 27 v4 rfl rfl); rw [ev4, e] at this; exact EV.valOk_slice Try.underlying27 this) hf'4
  rw [e4] at ev4
  subst ev4
  obtain ⟨N1, H1, u4, G1, X1, V4, S4, L4⟩ := EV.add_row (e := EV.intE .i64) G0 (fun _ => rfl) (by decide) (EV.intE_flat xs4) R4
  refine (EV.EF_calls (args := [.int .i64 c0, .int .i64 c1, .int .i64 c2, .int .i64 c3, u4]) (fun fn hf e => by have := List.all_eq_true.1 names fn hf; rw [e] at this; simp at this) (by kernel_rfl) EV.O0_sound G1 (EV.LR.cons ((EV.VR.int _ _).mono _) (EV.LR.cons ((EV.VR.int _ _).mono _) (EV.LR.cons ((EV.VR.int _ _).mono _) (EV.LR.cons ((EV.VR.int _ _).mono _) (EV.LR.cons (V4) (EV.LR.nil _)))))) (EV.law_WeightSays H1 c0 w0 c1 w1 c2 w2 c3 w3 u4 (xs4.take n4) S4 (fun z hz => w4 z (List.mem_of_mem_take hz)))).mono fun e W' ⟨he, bel⟩ => ?_
  subst he
  exact ⟨_, rfl, _, _, _, [], _, [], hW', trodAll_mk1 (shut_bool Try.underlying4 _), (trodAll_cons_mk (shut_int Try.underlying3 w0) (trodAll_cons_mk (shut_int Try.underlying3 w1) (trodAll_cons_mk (shut_int Try.underlying2 w2) (trodAll_cons_mk (shut_int Try.underlying2 w3) (trodAll_cons_mk (Below.trod laidOut (by kernel_rfl) (of_decide_eq_true (by kernel_rfl)) k4 bel lt4) trodAll_mk0))))), rfl, bel.frame _, fun h => by cases h⟩
theorem over : Rows.weightSaysRow.holds Try.pinned (OpenSpec.ofChange Rows.weightSaysSpec) :=
  OpenClaim.holds_of_wide 4 Try.f4 rfl rfl rfl rfl rfl rfl rfl ⟨rfl, rfl, rfl, rfl, rfl⟩ rfl rfl rfl rfl rfl (by kernel_rfl) Try.func4 (by kernel_rfl)
    (of_decide_eq_true (by kernel_rfl)) (by unfold Func.isWrapper; first | (rw [if_pos (by decide +kernel)]; kernel_rfl) | (rw [if_neg (by decide +kernel)]; exact ⟨rfl, rfl⟩))
    (fun os started H enc _ => lifted os started H enc)
theorem proved : Rows.WeightSaysSaid := over
#print axioms proved
end Go.Proofs.Ytoomhlfogeglcaa.weightSays
namespace Go.Proofs.Ytoomhlfogeglcaa
/-- The row, under a short name, for the claim. -/
theorem weightSays_holds : Rows.WeightSaysSaid := weightSays.proved
end Go.Proofs.Ytoomhlfogeglcaa
