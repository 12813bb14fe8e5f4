/- OrdqPlays answers true, whatever comes in; no condition beyond the given row's. Out of the plain theorem of YtchclddjifhcaaaRowA3, by a program of this session. -/
import Derived.Test.YtchclddjifhcaaaRows
import Derived.Test.YtchclddjifhcaaaRowA3
import Derived.WalkKit
import Derived.ProofKit
import Derived.OpenShut
import Derived.ShutString
import Derived.ChangeOld
import Derived.Below
import Derived.SizedLaws
import Derived.Lib.SmallJoins
namespace Go.Proofs.Ytchclddjifhcaaa.ordqPlays
open Go.ChangeShapes Go.WideShapes Go.ChangeAt Go.RowKit Go.Joins
open Go.ChangeMaps (open_string shut_string)
set_option linter.unusedVariables false
set_option linter.unusedSimpArgs false
theorem own : ownKnob Try.prog.godebug = none := by kernel_rfl
theorem laidOut : laidOutB Try.prog = true := by kernel_rfl
set_option maxRecDepth 100000 in
theorem names : (Try.prog.funcs.toList.all fun fn => !(fn.name == "runtime.NumGoroutine")) = true := by decide +kernel
set_option maxRecDepth 100000 in
theorem lifted (os : Os) (started : os.Started) (H : Type) (enc : TypeId × Value → H) :
    ReturnsInHanded {} Try.checked os 7 .any (Rows.ordqPlaysSpec.pre6 enc Try.prog Try.f7 Rows.ordqPlaysRow.domain false) (Rows.ordqPlaysSpec.post enc Try.prog Try.f7 false true false false) := by
  refine returnsInHanded_of_change_sized (C := Try.checked) own started (by kernel_rfl) Try.func7
    (ChangeSpec.witness6 (enc := enc) (C := Try.checked) false ⟨#[], #[.int .i64 0, .slice none 0 0], []⟩ 8 (by kernel_rfl) (by kernel_rfl) (by kernel_rfl) (by kernel_rfl)) ?_
  intro W base args ds gs before hval0 hW hcnd hsz0 _
  have hval : ∀ (j : Nat) t v, Try.f7.params[j]? = some t → args[j]? = some v → Value.okWide Try.prog W .any base t v := hval0
  have hW' := hW
  obtain ⟨p, q, hA0, hV, rfl, hfz, hnd⟩ := hW
  have hA : DataW.TrodAll enc Try.prog W 0 (fun _ => true) true Try.f7.params.toList args.toList ds p := hA0
  rw [Try.params7] at hA hval
  obtain ⟨v0, vs0, d0, ds0, p0, q0, hargs, rfl, rfl, h0, r0⟩ := trodAll_cons hA
  obtain ⟨v1, vs1, d1, ds1, p1, q1, rfl, rfl, rfl, h1, r1⟩ := trodAll_cons r0
  obtain ⟨rfl, rfl, rfl⟩ := trodAll_nil r1
  obtain rfl : args = #[v0, v1] := by cases args; simp_all
  obtain ⟨rfl, rfl⟩ := trodVars_none hV
  have G0 := EV.HR.start W
  obtain ⟨c0, rfl, rfl, rfl, w0⟩ := open_int Try.underlying3 (hval 0 3 v0 rfl rfl) h0
  have k1 := h1
  have lt1 : ∀ x ∈ p1, x.block < W.heap.size := by obtain ⟨m, hm⟩ := k1; exact DataW.trod_lt m _ _ _ hm
  obtain ⟨fu1, hf1⟩ := h1
  obtain ⟨a01, len01, cap01, ev1⟩ := okWide_slice Try.underlying47 (hval 1 47 v1 rfl rfl)
  have hf'1 := hf1
  rw [ev1] at hf'1
  simp only [Value.cells] at hf'1
  obtain ⟨A1, n1, m1, xs1, e1, R1, lm1, w1⟩ := EV.open_row (e := EV.aE) (es := 3) (Wf := EV.aWf) Try.underlying47 (by kernel_rfl) (fun _ => rfl) EV.open_a3 (fun ad len cap e => by have := (hval 1 47 v1 rfl rfl); rw [ev1, e] at this; exact EV.valOk_slice Try.underlying47 this) hf'1
  rw [e1] at ev1
  subst ev1
  obtain ⟨N1, H1, u1, G1, X1, V1, S1, L1⟩ := EV.add_row (e := EV.aE) G0 (fun _ => rfl) (by decide) (EV.aE_flat xs1) R1
  refine (EV.EF_calls (args := [.int .i64 c0, u1]) (fun fn hf e => by have := List.all_eq_true.1 names fn hf; rw [e] at this; simp at this) (by kernel_rfl) EV.O0_sound G1 (EV.LR.cons ((EV.VR.int _ _).mono _) (EV.LR.cons (V1) (EV.LR.nil _))) (EV.law_OrdqPlays H1 c0 w0 u1 (xs1.take n1) S1 (fun z hz => w1 z (List.mem_of_mem_take hz)))).mono fun e W' ⟨he, bel⟩ => ?_
  subst he
  exact ⟨_, rfl, _, _, _, [], _, [], hW', trodAll_mk1 (shut_bool Try.underlying4 _), (trodAll_cons_mk (shut_int Try.underlying3 w0) (trodAll_cons_mk (Below.trod laidOut (by kernel_rfl) (of_decide_eq_true (by kernel_rfl)) k1 bel lt1) trodAll_mk0)), rfl, bel.frame _, fun h => by cases h⟩
theorem over : Rows.ordqPlaysRow.holds Try.pinned (OpenSpec.ofChange Rows.ordqPlaysSpec) :=
  OpenClaim.holds_of_wide 7 Try.f7 rfl rfl rfl rfl rfl rfl rfl ⟨rfl, rfl, rfl, rfl, rfl⟩ rfl rfl rfl rfl rfl (by kernel_rfl) Try.func7 (by kernel_rfl)
    (of_decide_eq_true (by kernel_rfl)) (by unfold Func.isWrapper; first | (rw [if_pos (by decide +kernel)]; kernel_rfl) | (rw [if_neg (by decide +kernel)]; exact ⟨rfl, rfl⟩))
    (fun os started H enc _ => lifted os started H enc)
theorem proved : Rows.OrdqPlaysSaid := over
#print axioms proved
end Go.Proofs.Ytchclddjifhcaaa.ordqPlays
namespace Go.Proofs.Ytchclddjifhcaaa
/-- The row, under a short name, for the claim. -/
theorem ordqPlays_holds : Rows.OrdqPlaysSaid := ordqPlays.proved
end Go.Proofs.Ytchclddjifhcaaa
