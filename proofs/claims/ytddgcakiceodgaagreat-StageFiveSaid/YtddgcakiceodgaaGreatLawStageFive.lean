/- StageFive answers true, whatever comes in; no condition beyond the given row's. Out of the plain theorem of YtddgcakiceodgaaGreatLawFive, by a program of this session. -/
import Derived.Test.YtddgcakiceodgaaGreatRows
import Derived.Test.YtddgcakiceodgaaGreatLawFive
import Derived.WalkKit
import Derived.ProofKit
import Derived.OpenShut
import Derived.ShutString
import Derived.ChangeOld
import Derived.Below
import Derived.SizedLaws
import Derived.Lib.SmallJoins
namespace Go.Proofs.YtddgcakiceodgaaGreat.stageFive
open Go.ChangeShapes Go.WideShapes Go.ChangeAt Go.RowKit Go.Joins
open Go.ChangeMaps (open_string shut_string)
set_option linter.unusedVariables false
set_option linter.unusedSimpArgs false
theorem own : ownKnob Tryz.prog.godebug = none := by kernel_rfl
theorem laidOut : laidOutB Tryz.prog = true := by kernel_rfl
set_option maxRecDepth 100000 in
theorem names : (Tryz.prog.funcs.toList.all fun fn => !(fn.name == "runtime.NumGoroutine")) = true := by decide +kernel
set_option maxRecDepth 100000 in
theorem lifted (os : Os) (started : os.Started) (H : Type) (enc : TypeId × Value → H) :
    ReturnsInHanded {} Tryz.checked os 3 .any (Rows.stageFiveSpec.pre6 enc Tryz.prog Tryz.f3 Rows.stageFiveRow.domain false) (Rows.stageFiveSpec.post enc Tryz.prog Tryz.f3 false true false false) := by
  refine returnsInHanded_of_change_sized (C := Tryz.checked) own started (by kernel_rfl) Tryz.func3
    (ChangeSpec.witness6 (enc := enc) (C := Tryz.checked) false ⟨#[], #[.int .i64 0, .agg #[.int .i64 0, .slice none 0 0], .int .i64 0, .int .i64 0], []⟩ 8 (by kernel_rfl) (by kernel_rfl) (by kernel_rfl) (by kernel_rfl)) ?_
  intro W base args ds gs before hval0 hW hcnd hsz0 _
  have hval : ∀ (j : Nat) t v, Tryz.f3.params[j]? = some t → args[j]? = some v → Value.okWide Tryz.prog W .any base t v := hval0
  have hW' := hW
  obtain ⟨p, q, hA0, hV, rfl, hfz, hnd⟩ := hW
  have hA : DataW.TrodAll enc Tryz.prog W 0 (fun _ => true) true Tryz.f3.params.toList args.toList ds p := hA0
  rw [Tryz.params3] at hA hval
  obtain ⟨v0, vs0, d0, ds0, p0, q0, hargs, rfl, rfl, h0, r0⟩ := trodAll_cons hA
  obtain ⟨v1, vs1, d1, ds1, p1, q1, rfl, rfl, rfl, h1, r1⟩ := trodAll_cons r0
  obtain ⟨v2, vs2, d2, ds2, p2, q2, rfl, rfl, rfl, h2, r2⟩ := trodAll_cons r1
  obtain ⟨v3, vs3, d3, ds3, p3, q3, rfl, rfl, rfl, h3, r3⟩ := trodAll_cons r2
  obtain ⟨rfl, rfl, rfl⟩ := trodAll_nil r3
  obtain rfl : args = #[v0, v1, v2, v3] := by cases args; simp_all
  obtain ⟨rfl, rfl⟩ := trodVars_none hV
  have G0 := EV.HR.start W
  obtain ⟨c0, rfl, rfl, rfl, w0⟩ := open_int Tryz.underlying3 (hval 0 3 v0 rfl rfl) h0
  have k1 := h1
  have lt1 : ∀ x ∈ p1, x.block < W.heap.size := by obtain ⟨m, hm⟩ := k1; exact DataW.trod_lt m _ _ _ hm
  obtain ⟨va1, vb1, ya1, yb1, n1, rfl, hd1, hp1, ta1, tb1⟩ := open_agg2 Tryz.underlying24 (by kernel_rfl) (by kernel_rfl) (hval 1 24 _ rfl rfl) h1
  obtain ⟨c1, ec1, _, wc1⟩ := DataW.trod_int Tryz.underlying3 ta1
  injection ec1 with ec1
  subst ec1
  obtain ⟨A1, n1, m1, xs1, rfl, R1, lm1, w1⟩ := EV.open_row (e := EV.itemE) (es := 3) (Wf := EV.ItemWf) Tryz.underlying22 (by kernel_rfl) (fun _ => rfl) EV.open_item (fun ad len cap e => by subst e; exact EV.cellOk_slice Tryz.underlying22 (EV.valOk_cell Tryz.underlying24 (ts := [3, 22]) (by kernel_rfl) (hval 1 24 _ rfl rfl) (i := 1) rfl rfl)) tb1
  obtain ⟨N1, H1, u1, G1, X1, V1, S1, L1⟩ := EV.add_row (e := EV.itemE) G0 (fun _ => rfl) (by decide) (EV.itemE_flat xs1) R1
  obtain ⟨c2, rfl, rfl, rfl, w2⟩ := open_int Tryz.underlying3 (hval 2 3 v2 rfl rfl) h2
  obtain ⟨c3, rfl, rfl, rfl, w3⟩ := open_int Tryz.underlying2 (hval 3 2 v3 rfl rfl) h3
  refine (EV.EF_calls (args := [.int .i64 c0, EV.formV c1 u1, .int .i64 c2, .int .i64 c3]) (fun fn hf e => by have := List.all_eq_true.1 names fn hf; rw [e] at this; simp at this) (by kernel_rfl) EV.O0_sound G1 (EV.LR.cons ((EV.VR.int _ _).mono _) (EV.LR.cons (EV.VR_agg (EV.LR.cons (.int _ _) (EV.LR.cons V1 (EV.LR.nil _)))) (EV.LR.cons (EV.VR.int _ _) (EV.LR.cons (EV.VR.int _ _) (EV.LR.nil _))))) (EV.law_StageFive H1 c0 w0 c1 wc1 u1 (xs1.take n1) S1 (fun z hz => w1 z (List.mem_of_mem_take hz)) c2 w2 c3 w3)).mono fun e W' ⟨he, bel⟩ => ?_
  subst he
  exact ⟨_, rfl, _, _, _, [], _, [], hW', trodAll_mk1 (shut_bool Tryz.underlying4 _), (trodAll_cons_mk (shut_int Tryz.underlying3 w0) (trodAll_cons_mk (Below.trod laidOut (by kernel_rfl) (of_decide_eq_true (by kernel_rfl)) k1 bel lt1) (trodAll_cons_mk (shut_int Tryz.underlying3 w2) (trodAll_cons_mk (shut_int Tryz.underlying2 w3) trodAll_mk0)))), rfl, bel.frame _, fun h => by cases h⟩
theorem over : Rows.stageFiveRow.holds Tryz.pinned (OpenSpec.ofChange Rows.stageFiveSpec) :=
  OpenClaim.holds_of_wide 3 Tryz.f3 rfl rfl rfl rfl rfl rfl rfl ⟨rfl, rfl, rfl, rfl, rfl⟩ rfl rfl rfl rfl rfl (by kernel_rfl) Tryz.func3 (by kernel_rfl)
    (of_decide_eq_true (by kernel_rfl)) (by unfold Func.isWrapper; first | (rw [if_pos (by decide +kernel)]; kernel_rfl) | (rw [if_neg (by decide +kernel)]; exact ⟨rfl, rfl⟩))
    (fun os started H enc _ => lifted os started H enc)
theorem proved : Rows.StageFiveSaid := over
#print axioms proved
end Go.Proofs.YtddgcakiceodgaaGreat.stageFive
namespace Go.Proofs.YtddgcakiceodgaaGreat
/-- The row, under a short name, for the claim. -/
theorem stageFive_holds : Rows.StageFiveSaid := stageFive.proved
end Go.Proofs.YtddgcakiceodgaaGreat
