/- DueqPlays answers true, whatever comes in; no condition beyond the given row's. Out of the plain theorem of YtbbdhpjkibbnkaaRowA4, by a program of this session. -/
import Derived.Test.YtbbdhpjkibbnkaaRows
import Derived.Test.YtbbdhpjkibbnkaaRowA4
import Derived.WalkKit
import Derived.ProofKit
import Derived.OpenShut
import Derived.ShutString
import Derived.ChangeOld
import Derived.Below
import Derived.SizedLaws
import Derived.Lib.SmallJoins
namespace Go.Proofs.Ytbbdhpjkibbnkaa.dueqPlays
open Go.ChangeShapes Go.WideShapes Go.ChangeAt Go.RowKit Go.Joins
open Go.ChangeMaps (open_string shut_string)
set_option linter.unusedVariables false
set_option linter.unusedSimpArgs false
theorem own : ownKnob Try.prog.godebug = none := by kernel_rfl
theorem laidOut : laidOutB Try.prog = true := by kernel_rfl
set_option maxRecDepth 100000 in
theorem names : (Try.prog.funcs.toList.all fun fn => !(fn.name == "runtime.NumGoroutine")) = true := by decide +kernel
set_option maxRecDepth 100000 in
theorem lifted (os : Os) (started : os.Started) (H : Type) (enc : TypeId × Value → H) :
    ReturnsInHanded {} Try.checked os 6 .any (Rows.dueqPlaysSpec.pre6 enc Try.prog Try.f6 Rows.dueqPlaysRow.domain false) (Rows.dueqPlaysSpec.post enc Try.prog Try.f6 false true false false) := by
  refine returnsInHanded_of_change_sized (C := Try.checked) own started (by kernel_rfl) Try.func6
    (ChangeSpec.witness6 (enc := enc) (C := Try.checked) false ⟨#[], #[.int .i64 0, .slice none 0 0, .slice none 0 0], []⟩ 8 (by kernel_rfl) (by kernel_rfl) (by kernel_rfl) (by kernel_rfl)) ?_
  intro W base args ds gs before hval0 hW hcnd hsz0 _
  have hval : ∀ (j : Nat) t v, Try.f6.params[j]? = some t → args[j]? = some v → Value.okWide Try.prog W .any base t v := hval0
  have hW' := hW
  obtain ⟨p, q, hA0, hV, rfl, hfz, hnd⟩ := hW
  have hA : DataW.TrodAll enc Try.prog W 0 (fun _ => true) true Try.f6.params.toList args.toList ds p := hA0
  rw [Try.params6] at hA hval
  obtain ⟨v0, vs0, d0, ds0, p0, q0, hargs, rfl, rfl, h0, r0⟩ := trodAll_cons hA
  obtain ⟨v1, vs1, d1, ds1, p1, q1, rfl, rfl, rfl, h1, r1⟩ := trodAll_cons r0
  obtain ⟨v2, vs2, d2, ds2, p2, q2, rfl, rfl, rfl, h2, r2⟩ := trodAll_cons r1
  obtain ⟨rfl, rfl, rfl⟩ := trodAll_nil r2
  obtain rfl : args = #[v0, v1, v2] := by cases args; simp_all
  obtain ⟨rfl, rfl⟩ := trodVars_none hV
  have G0 := EV.HR.start W
  obtain ⟨c0, rfl, rfl, rfl, w0⟩ := open_int Try.underlying3 (hval 0 3 v0 rfl rfl) h0
  have k1 := h1
  have lt1 : ∀ x ∈ p1, x.block < W.heap.size := by obtain ⟨m, hm⟩ := k1; exact DataW.trod_lt m _ _ _ hm
  obtain ⟨fu1, hf1⟩ := h1
  obtain ⟨a01, len01, cap01, ev1⟩ := okWide_slice Try.underlying43 (hval 1 43 v1 rfl rfl)
  have hf'1 := hf1
  rw [ev1] at hf'1
  simp only [Value.cells] at hf'1
  obtain ⟨A1, n1, m1, xs1, e1, R1, lm1, w1⟩ := EV.open_row (e := EV.aE) (es := 4) (Wf := EV.aWf) Try.underlying43 (by kernel_rfl) (fun _ => rfl) EV.open_a4 (fun ad len cap e => by have := (hval 1 43 v1 rfl rfl); rw [ev1, e] at this; exact EV.valOk_slice Try.underlying43 this) hf'1
  rw [e1] at ev1
  subst ev1
  obtain ⟨N1, H1, u1, G1, X1, V1, S1, L1⟩ := EV.add_row (e := EV.aE) G0 (fun _ => rfl) (by decide) (EV.aE_flat xs1) R1
  have k2 := h2
  have lt2 : ∀ x ∈ p2, x.block < W.heap.size := by obtain ⟨m, hm⟩ := k2; exact DataW.trod_lt m _ _ _ hm
  obtain ⟨fu2, hf2⟩ := h2
  obtain ⟨a02, len02, cap02, ev2⟩ := okWide_slice Try.underlying22 (hval 2 22 v2 rfl rfl)
  have hf'2 := hf2
  rw [ev2] at hf'2
  simp only [Value.cells] at hf'2
  obtain ⟨A2, n2, m2, xs2, e2, R2, lm2, w2⟩ := EV.open_row (e := EV.intE .i64) (es := 1) (Wf := (fun z => (Lit.int .i64 z).wf = true)) Try.underlying22 (by kernel_rfl) (fun _ => rfl) (EV.open_int1 Try.underlying2) (fun ad len cap e => by have := (hval 2 22 v2 rfl rfl); rw [ev2, e] at this; exact EV.valOk_slice Try.underlying22 this) hf'2
  rw [e2] at ev2
  subst ev2
  obtain ⟨N2, H2, u2, G2, X2, V2, S2, L2⟩ := EV.add_row (e := EV.intE .i64) G1 (fun _ => rfl) (by decide) (EV.intE_flat xs2) R2
  refine (EV.EF_calls (args := [.int .i64 c0, u1, u2]) (fun fn hf e => by have := List.all_eq_true.1 names fn hf; rw [e] at this; simp at this) (by kernel_rfl) EV.O0_sound G2 (EV.LR.cons (((EV.VR.int _ _).mono _).mono _) (EV.LR.cons ((V1).mono _) (EV.LR.cons (V2) (EV.LR.nil _)))) (EV.law_DueqPlays H2 c0 w0 u1 (xs1.take n1) ((S1).ext X2) (fun z hz => w1 z (List.mem_of_mem_take hz)) u2 (xs2.take n2) S2 (fun z hz => w2 z (List.mem_of_mem_take hz)))).mono fun e W' ⟨he, bel⟩ => ?_
  subst he
  exact ⟨_, rfl, _, _, _, [], _, [], hW', trodAll_mk1 (shut_bool Try.underlying4 _), (trodAll_cons_mk (shut_int Try.underlying3 w0) (trodAll_cons_mk (Below.trod laidOut (by kernel_rfl) (of_decide_eq_true (by kernel_rfl)) k1 bel lt1) (trodAll_cons_mk (Below.trod laidOut (by kernel_rfl) (of_decide_eq_true (by kernel_rfl)) k2 bel lt2) trodAll_mk0))), rfl, bel.frame _, fun h => by cases h⟩
theorem over : Rows.dueqPlaysRow.holds Try.pinned (OpenSpec.ofChange Rows.dueqPlaysSpec) :=
  OpenClaim.holds_of_wide 6 Try.f6 rfl rfl rfl rfl rfl rfl rfl ⟨rfl, rfl, rfl, rfl, rfl⟩ rfl rfl rfl rfl rfl (by kernel_rfl) Try.func6 (by kernel_rfl)
    (of_decide_eq_true (by kernel_rfl)) (by unfold Func.isWrapper; first | (rw [if_pos (by decide +kernel)]; kernel_rfl) | (rw [if_neg (by decide +kernel)]; exact ⟨rfl, rfl⟩))
    (fun os started H enc _ => lifted os started H enc)
theorem proved : Rows.DueqPlaysSaid := over
#print axioms proved
end Go.Proofs.Ytbbdhpjkibbnkaa.dueqPlays
namespace Go.Proofs.Ytbbdhpjkibbnkaa
/-- The row, under a short name, for the claim. -/
theorem dueqPlays_holds : Rows.DueqPlaysSaid := dueqPlays.proved
end Go.Proofs.Ytbbdhpjkibbnkaa
