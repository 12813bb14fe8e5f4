/- DueqSets answers true, whatever comes in; no condition beyond the given row's. Out of the plain theorem of YtbbdhpjkibbnkaaLawDSets, by a program of this session. -/
import Derived.Test.YtbbdhpjkibbnkaaRows
import Derived.Test.YtbbdhpjkibbnkaaLawDSets
import Derived.WalkKit
import Derived.ProofKit
import Derived.OpenShut
import Derived.ShutString
import Derived.ChangeOld
import Derived.Below
import Derived.SizedLaws
import Derived.Lib.SmallJoins
namespace Go.Proofs.Ytbbdhpjkibbnkaa.dueqSets
open Go.ChangeShapes Go.WideShapes Go.ChangeAt Go.RowKit Go.Joins
open Go.ChangeMaps (open_string shut_string)
set_option linter.unusedVariables false
set_option linter.unusedSimpArgs false
theorem own : ownKnob Try.prog.godebug = none := by kernel_rfl
theorem laidOut : laidOutB Try.prog = true := by kernel_rfl
set_option maxRecDepth 100000 in
theorem names : (Try.prog.funcs.toList.all fun fn => !(fn.name == "runtime.NumGoroutine")) = true := by decide +kernel
set_option maxRecDepth 100000 in
theorem lifted (os : Os) (started : os.Started) (H : Type) (enc : TypeId × Value → H) :
    ReturnsInHanded {} Try.checked os 4 .any (Rows.dueqSetsSpec.pre6 enc Try.prog Try.f4 Rows.dueqSetsRow.domain false) (Rows.dueqSetsSpec.post enc Try.prog Try.f4 false true false false) := by
  refine returnsInHanded_of_change_sized (C := Try.checked) own started (by kernel_rfl) Try.func4
    (ChangeSpec.witness6 (enc := enc) (C := Try.checked) false ⟨#[], #[.slice none 0 0, .slice none 0 0, .int .i64 0, .int .i64 0, .int .i64 0, .int .i64 0], []⟩ 8 (by kernel_rfl) (by kernel_rfl) (by kernel_rfl) (by kernel_rfl)) ?_
  intro W base args ds gs before hval0 hW hcnd hsz0 _
  have hval : ∀ (j : Nat) t v, Try.f4.params[j]? = some t → args[j]? = some v → Value.okWide Try.prog W .any base t v := hval0
  have hW' := hW
  obtain ⟨p, q, hA0, hV, rfl, hfz, hnd⟩ := hW
  have hA : DataW.TrodAll enc Try.prog W 0 (fun _ => true) true Try.f4.params.toList args.toList ds p := hA0
  rw [Try.params4] at hA hval
  obtain ⟨v0, vs0, d0, ds0, p0, q0, hargs, rfl, rfl, h0, r0⟩ := trodAll_cons hA
  obtain ⟨v1, vs1, d1, ds1, p1, q1, rfl, rfl, rfl, h1, r1⟩ := trodAll_cons r0
  obtain ⟨v2, vs2, d2, ds2, p2, q2, rfl, rfl, rfl, h2, r2⟩ := trodAll_cons r1
  obtain ⟨v3, vs3, d3, ds3, p3, q3, rfl, rfl, rfl, h3, r3⟩ := trodAll_cons r2
  obtain ⟨v4, vs4, d4, ds4, p4, q4, rfl, rfl, rfl, h4, r4⟩ := trodAll_cons r3
  obtain ⟨v5, vs5, d5, ds5, p5, q5, rfl, rfl, rfl, h5, r5⟩ := trodAll_cons r4
  obtain ⟨rfl, rfl, rfl⟩ := trodAll_nil r5
  obtain rfl : args = #[v0, v1, v2, v3, v4, v5] := by cases args; simp_all
  obtain ⟨rfl, rfl⟩ := trodVars_none hV
  have G0 := EV.HR.start W
  have k0 := h0
  have lt0 : ∀ x ∈ p0, x.block < W.heap.size := by obtain ⟨m, hm⟩ := k0; exact DataW.trod_lt m _ _ _ hm
  obtain ⟨fu0, hf0⟩ := h0
  obtain ⟨a00, len00, cap00, ev0⟩ := okWide_slice Try.underlying22 (hval 0 22 v0 rfl rfl)
  have hf'0 := hf0
  rw [ev0] at hf'0
  simp only [Value.cells] at hf'0
  obtain ⟨A0, n0, m0, xs0, e0, R0, lm0, w0⟩ := EV.open_row (e := EV.intE .i64) (es := 1) (Wf := (fun z => (Lit.int .i64 z).wf = true)) Try.underlying22 (by kernel_rfl) (fun _ => rfl) (EV.open_int1 Try.underlying2) (fun ad len cap e => by have := (hval 0 22 v0 rfl rfl); rw [ev0, e] at this; exact EV.valOk_slice Try.underlying22 this) hf'0
  rw [e0] at ev0
  subst ev0
  obtain ⟨N1, H1, u0, G1, X1, V0, S0, L0⟩ := EV.add_row (e := EV.intE .i64) G0 (fun _ => rfl) (by decide) (EV.intE_flat xs0) R0
  have k1 := h1
  have lt1 : ∀ x ∈ p1, x.block < W.heap.size := by obtain ⟨m, hm⟩ := k1; exact DataW.trod_lt m _ _ _ hm
  obtain ⟨fu1, hf1⟩ := h1
  obtain ⟨a01, len01, cap01, ev1⟩ := okWide_slice Try.underlying22 (hval 1 22 v1 rfl rfl)
  have hf'1 := hf1
  rw [ev1] at hf'1
  simp only [Value.cells] at hf'1
  obtain ⟨A1, n1, m1, xs1, e1, R1, lm1, w1⟩ := EV.open_row (e := EV.intE .i64) (es := 1) (Wf := (fun z => (Lit.int .i64 z).wf = true)) Try.underlying22 (by kernel_rfl) (fun _ => rfl) (EV.open_int1 Try.underlying2) (fun ad len cap e => by have := (hval 1 22 v1 rfl rfl); rw [ev1, e] at this; exact EV.valOk_slice Try.underlying22 this) hf'1
  rw [e1] at ev1
  subst ev1
  obtain ⟨N2, H2, u1, G2, X2, V1, S1, L1⟩ := EV.add_row (e := EV.intE .i64) G1 (fun _ => rfl) (by decide) (EV.intE_flat xs1) R1
  obtain ⟨c2, rfl, rfl, rfl, w2⟩ := open_int Try.underlying3 (hval 2 3 v2 rfl rfl) h2
  obtain ⟨c3, rfl, rfl, rfl, w3⟩ := open_int Try.underlying2 (hval 3 2 v3 rfl rfl) h3
  obtain ⟨c4, rfl, rfl, rfl, w4⟩ := open_int Try.underlying2 (hval 4 2 v4 rfl rfl) h4
  obtain ⟨c5, rfl, rfl, rfl, w5⟩ := open_int Try.underlying2 (hval 5 2 v5 rfl rfl) h5
  refine (EV.EF_calls (args := [u0, u1, .int .i64 c2, .int .i64 c3, .int .i64 c4, .int .i64 c5]) (fun fn hf e => by have := List.all_eq_true.1 names fn hf; rw [e] at this; simp at this) (by kernel_rfl) EV.O0_sound G2 (EV.LR.cons ((V0).mono _) (EV.LR.cons (V1) (EV.LR.cons (EV.VR.int _ _) (EV.LR.cons (EV.VR.int _ _) (EV.LR.cons (EV.VR.int _ _) (EV.LR.cons (EV.VR.int _ _) (EV.LR.nil _))))))) (EV.law_DueqSets H2 u0 (xs0.take n0) ((S0).ext X2) (fun z hz => w0 z (List.mem_of_mem_take hz)) u1 (xs1.take n1) S1 (fun z hz => w1 z (List.mem_of_mem_take hz)) c2 w2 c3 w3 c4 w4 c5 w5)).mono fun e W' ⟨he, bel⟩ => ?_
  subst he
  exact ⟨_, rfl, _, _, _, [], _, [], hW', trodAll_mk1 (shut_bool Try.underlying4 _), (trodAll_cons_mk (Below.trod laidOut (by kernel_rfl) (of_decide_eq_true (by kernel_rfl)) k0 bel lt0) (trodAll_cons_mk (Below.trod laidOut (by kernel_rfl) (of_decide_eq_true (by kernel_rfl)) k1 bel lt1) (trodAll_cons_mk (shut_int Try.underlying3 w2) (trodAll_cons_mk (shut_int Try.underlying2 w3) (trodAll_cons_mk (shut_int Try.underlying2 w4) (trodAll_cons_mk (shut_int Try.underlying2 w5) trodAll_mk0)))))), rfl, bel.frame _, fun h => by cases h⟩
theorem over : Rows.dueqSetsRow.holds Try.pinned (OpenSpec.ofChange Rows.dueqSetsSpec) :=
  OpenClaim.holds_of_wide 4 Try.f4 rfl rfl rfl rfl rfl rfl rfl ⟨rfl, rfl, rfl, rfl, rfl⟩ rfl rfl rfl rfl rfl (by kernel_rfl) Try.func4 (by kernel_rfl)
    (of_decide_eq_true (by kernel_rfl)) (by unfold Func.isWrapper; first | (rw [if_pos (by decide +kernel)]; kernel_rfl) | (rw [if_neg (by decide +kernel)]; exact ⟨rfl, rfl⟩))
    (fun os started H enc _ => lifted os started H enc)
theorem proved : Rows.DueqSetsSaid := over
#print axioms proved
end Go.Proofs.Ytbbdhpjkibbnkaa.dueqSets
namespace Go.Proofs.Ytbbdhpjkibbnkaa
/-- The row, under a short name, for the claim. -/
theorem dueqSets_holds : Rows.DueqSetsSaid := dueqSets.proved
end Go.Proofs.Ytbbdhpjkibbnkaa
