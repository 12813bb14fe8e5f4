/- CheckSays answers true, whatever comes in; no condition beyond the given row's. Out of the plain theorem of YtggidmjgadlolaaDoorLawCSays, by a program of this session. -/
import Derived.Test.YtggidmjgadlolaaDoorRows
import Derived.Test.YtggidmjgadlolaaDoorCards
import Derived.Test.YtggidmjgadlolaaDoorTie
import Derived.Test.YtggidmjgadlolaaDoorLawCSays
import Derived.WalkKit
import Derived.ProofKit
import Derived.OpenShut
import Derived.ShutString
import Derived.ChangeOld
import Derived.Below
import Derived.SizedLaws
import Derived.Lib.SmallJoins
import Derived.LaidMore
import Derived.Lay
import Derived.Stop.LaidErr
import Derived.Stop.Joined
import Derived.SevenTiedAt
namespace Go.Proofs.YtggidmjgadlolaaDoor.checkSays
open Go.ChangeShapes Go.WideShapes Go.ChangeAt Go.RowKit Go.Joins
open Go.ChangeMaps (open_string shut_string)
set_option linter.unusedVariables false
set_option linter.unusedSimpArgs false
theorem own : ownKnob Tryd.prog.godebug = none := by kernel_rfl
theorem laidOut : laidOutB Tryd.prog = true := by kernel_rfl
set_option maxRecDepth 100000 in
theorem names : (Tryd.prog.funcs.toList.all fun fn => !(fn.name == "runtime.NumGoroutine")) = true := by decide +kernel
theorem laid_tab {w : World} (h : laidMetH Tryd.prog Rows.checkSaysRow.laid w) : EV.TabW w := by
  rw [MakeChecks.laidMetH_plain _ _ _ (by kernel_rfl)] at h
  have ht : EV.tabOK w := by
    refine Lib.tabIs_of_head (n := 20) EV.gPow (t := 72) (e := 65) (by kernel_rfl) Tryd.underlying72 Tryd.underlying65 (by kernel_rfl) (by kernel_rfl) (rest := []) ?_
    have e : (Rows.laid_internal_strconv_uint64pow10 : DataW Unit) = Lib.tabData .u64 Lib.pow10Tab := by kernel_rfl
    rw [← e]
    exact (laidMet.tail (laidMet.tail h))
  refine ⟨?_, ht⟩
  unfold EV.tabOK Lib.TabIs World.var? at ht
  rw [EV.gPow] at ht
  rcases Nat.lt_or_ge 0 w.heap.size with q | q
  · exact q
  · have e : w.heap[0]? = Option.none := Array.getElem?_eq_none q
    simp only [Option.bind_some, e] at ht
    cases ht
set_option maxRecDepth 100000 in
theorem lifted (os : Os) (started : os.Started) (H : Type) (enc : TypeId × Value → H) :
    ReturnsInHanded {} Tryd.checked os 4 .any (fun w args => (Rows.checkSaysSpec.pre enc Tryd.prog Tryd.f4 Rows.checkSaysRow.domain false w args ∧ laidMetH Tryd.prog Rows.checkSaysRow.laid w) ∧ sizedMet enc Tryd.prog Tryd.f4 (OpenSpec.ofChange Rows.checkSaysSpec) false w args) (Rows.checkSaysSpec.post enc Tryd.prog Tryd.f4 false true false false) := by
  refine returnsInHanded_of_change_and (C := Tryd.checked) (X := fun w _ => laidMetH Tryd.prog Rows.checkSaysRow.laid w) (fun _ _ _ hh h => h.of_heap hh) own started (by kernel_rfl) Tryd.func4
    (ChangeSpec.witness_shaped (enc := enc) (C := Tryd.checked) (os := os) (X := fun w _ => laidMetH Tryd.prog Rows.checkSaysRow.laid w) false (World.laidAll Tryd.prog os Rows.checkSaysRow.laid) #[.agg #[.int .i64 0, .slice none 0 0], .agg #[.int .i64 0, .slice none 0 0], .slice none 0 0] 8 (World.laidAll_os _ _ _) (World.shaped_of_ZipB (by kernel_rfl) (by kernel_rfl)) (by kernel_rfl) (by kernel_rfl) (by kernel_rfl)
      (by rw [MakeChecks.laidMetH_plain _ _ _ (by kernel_rfl)]; exact laidMet_laidAll _ (by kernel_rfl) (by kernel_rfl))) ?_
  intro W base args ds gs before hval0 hW hcnd hsz0 hL _
  have tw : EV.TabW W := laid_tab hL
  have hval : ∀ (j : Nat) t v, Tryd.f4.params[j]? = some t → args[j]? = some v → Value.okWide Tryd.prog W .any base t v := hval0
  have hW' := hW
  obtain ⟨p, q, hA0, hV, rfl, hfz, hnd⟩ := hW
  have hA : DataW.TrodAll enc Tryd.prog W 0 (fun _ => true) true Tryd.f4.params.toList args.toList ds p := hA0
  rw [Tryd.params4] at hA hval
  obtain ⟨v0, vs0, d0, ds0, p0, q0, hargs, rfl, rfl, h0, r0⟩ := trodAll_cons hA
  obtain ⟨v1, vs1, d1, ds1, p1, q1, rfl, rfl, rfl, h1, r1⟩ := trodAll_cons r0
  obtain ⟨v2, vs2, d2, ds2, p2, q2, rfl, rfl, rfl, h2, r2⟩ := trodAll_cons r1
  obtain ⟨rfl, rfl, rfl⟩ := trodAll_nil r2
  obtain rfl : args = #[v0, v1, v2] := by cases args; simp_all
  obtain ⟨rfl, rfl⟩ := trodVars_none hV
  have G0 := EV.HR.start W tw
  have k0 := h0
  have lt0 : ∀ x ∈ p0, x.block < W.heap.size := by obtain ⟨m, hm⟩ := k0; exact DataW.trod_lt m _ _ _ hm
  obtain ⟨va0, vb0, ya0, yb0, n0, rfl, hd0, hp0, ta0, tb0⟩ := open_agg2 Tryd.underlying29 (by kernel_rfl) (by kernel_rfl) (hval 0 29 _ rfl rfl) h0
  obtain ⟨c0, ec0, _, wc0⟩ := DataW.trod_int Tryd.underlying3 ta0
  injection ec0 with ec0
  subst ec0
  obtain ⟨A0, n0, m0, xs0, rfl, R0, lm0, w0⟩ := EV.open_row (e := EV.itemE) (es := 3) (Wf := EV.ItemWf) Tryd.underlying27 (by kernel_rfl) (fun _ => rfl) EV.open_item (fun ad len cap e => by subst e; exact EV.cellOk_slice Tryd.underlying27 (EV.valOk_cell Tryd.underlying29 (ts := [3, 27]) (by kernel_rfl) (hval 0 29 _ rfl rfl) (i := 1) rfl rfl)) tb0
  obtain ⟨N1, H1, u0, G1, X1, V0, S0, L0⟩ := EV.add_row (e := EV.itemE) G0 (fun _ => rfl) (by decide) (EV.itemE_flat xs0) R0
  have k1 := h1
  have lt1 : ∀ x ∈ p1, x.block < W.heap.size := by obtain ⟨m, hm⟩ := k1; exact DataW.trod_lt m _ _ _ hm
  obtain ⟨va1, vb1, ya1, yb1, n1, rfl, hd1, hp1, ta1, tb1⟩ := open_agg2 Tryd.underlying29 (by kernel_rfl) (by kernel_rfl) (hval 1 29 _ rfl rfl) h1
  obtain ⟨c1, ec1, _, wc1⟩ := DataW.trod_int Tryd.underlying3 ta1
  injection ec1 with ec1
  subst ec1
  obtain ⟨A1, n1, m1, xs1, rfl, R1, lm1, w1⟩ := EV.open_row (e := EV.itemE) (es := 3) (Wf := EV.ItemWf) Tryd.underlying27 (by kernel_rfl) (fun _ => rfl) EV.open_item (fun ad len cap e => by subst e; exact EV.cellOk_slice Tryd.underlying27 (EV.valOk_cell Tryd.underlying29 (ts := [3, 27]) (by kernel_rfl) (hval 1 29 _ rfl rfl) (i := 1) rfl rfl)) tb1
  obtain ⟨N2, H2, u1, G2, X2, V1, S1, L1⟩ := EV.add_row (e := EV.itemE) G1 (fun _ => rfl) (by decide) (EV.itemE_flat xs1) R1
  have k2 := h2
  have lt2 : ∀ x ∈ p2, x.block < W.heap.size := by obtain ⟨m, hm⟩ := k2; exact DataW.trod_lt m _ _ _ hm
  obtain ⟨fu2, hf2⟩ := h2
  obtain ⟨a02, len02, cap02, ev2⟩ := okWide_slice Tryd.underlying23 (hval 2 23 v2 rfl rfl)
  have hf'2 := hf2
  rw [ev2] at hf'2
  simp only [Value.cells] at hf'2
  obtain ⟨A2, n2, m2, xs2, e2, R2, lm2, w2⟩ := EV.open_row (e := EV.fltE) (es := 2) (Wf := EV.FltWf) Tryd.underlying23 (by kernel_rfl) (fun _ => rfl) EV.open_flt (fun ad len cap e => by have := (hval 2 23 v2 rfl rfl); rw [ev2, e] at this; exact EV.valOk_slice Tryd.underlying23 this) hf'2
  rw [e2] at ev2
  subst ev2
  obtain ⟨N3, H3, u2, G3, X3, V2, S2, L2⟩ := EV.add_row (e := EV.fltE) G2 (fun _ => rfl) (by decide) (EV.fltE_flat xs2) R2
  refine (EV.EF_calls (args := [EV.formV c0 u0, EV.formV c1 u1, u2]) (fun fn hf e => by have := List.all_eq_true.1 names fn hf; rw [e] at this; simp at this) (by kernel_rfl) EV.O0_sound G3 (EV.LR.cons (((EV.VR_agg (EV.LR.cons (.int _ _) (EV.LR.cons V0 (EV.LR.nil _)))).mono _).mono _) (EV.LR.cons ((EV.VR_agg (EV.LR.cons (.int _ _) (EV.LR.cons V1 (EV.LR.nil _)))).mono _) (EV.LR.cons (V2) (EV.LR.nil _)))) (EV.law_CheckSays H3 c0 wc0 u0 (xs0.take n0) ((((S0).ext X2)).ext X3) (fun z hz => w0 z (List.mem_of_mem_take hz)) c1 wc1 u1 (xs1.take n1) ((S1).ext X3) (fun z hz => w1 z (List.mem_of_mem_take hz)) u2 (xs2.take n2) S2 (fun z hz => w2 z (List.mem_of_mem_take hz)))).mono fun e W' ⟨he, bel⟩ => ?_
  subst he
  exact ⟨_, rfl, _, _, _, [], _, [], hW', trodAll_mk1 (shut_bool Tryd.underlying4 _), (trodAll_cons_mk (Below.trod laidOut (by kernel_rfl) (of_decide_eq_true (by kernel_rfl)) k0 bel lt0) (trodAll_cons_mk (Below.trod laidOut (by kernel_rfl) (of_decide_eq_true (by kernel_rfl)) k1 bel lt1) (trodAll_cons_mk (Below.trod laidOut (by kernel_rfl) (of_decide_eq_true (by kernel_rfl)) k2 bel lt2) trodAll_mk0))), rfl, bel.frame _, fun h => by cases h⟩
theorem over : Rows.checkSaysRow.holds Tryd.pinned (OpenSpec.ofChange Rows.checkSaysSpec) :=
  OpenClaim.holds_of_wide 4 Tryd.f4 rfl rfl rfl rfl rfl rfl rfl ⟨rfl, rfl, rfl, rfl, rfl⟩ rfl rfl rfl rfl rfl (by kernel_rfl) Tryd.func4 (by kernel_rfl)
    (of_decide_eq_true (by kernel_rfl)) (by unfold Func.isWrapper; first | (rw [if_pos (by decide +kernel)]; kernel_rfl) | (rw [if_neg (by decide +kernel)]; exact ⟨rfl, rfl⟩))
    (fun os started H enc _ => lifted os started H enc)
theorem card_holds : Rows.CheckSaysCardSaid :=
  Claim7.holds_tied_plain_at .later [] [.data, .data, .data] true (true, "574ac496b3324a16c21bf41b4838075df5d0cbf07f906388c3bceacfd8845d46") false over (fun _ h => by cases h) (by kernel_rfl) (fun _ h => by cases h) checkSays_row_tie rfl ⟨rfl, rfl⟩ (by kernel_rfl) rfl
    (fun f fn hf hfn => by
      obtain rfl : f = 4 := Option.some.inj ((show Tryd.prog.funcNamed "stadholder/stadholderlaw20.CheckSays" = some 4 by kernel_rfl).symm.trans hf) |>.symm
      obtain rfl : fn = Tryd.f4 := (Option.some.inj (Tryd.func4.symm.trans hfn)).symm
      exact ⟨by kernel_rfl, fun j t ht => by
        rw [Tryd.params4] at ht
        have hm : t ∈ [29, 29, 23] := by simpa using Array.mem_of_getElem? ht
        have hall : ([29, 29, 23].all fun u => !Tryd.prog.wantsStandIn u) = true := by kernel_rfl
        exact (show Tryd.prog.wantsStandIn t = false by simpa using List.all_eq_true.1 hall t hm)⟩)
    (by kernel_rfl)
theorem proved : Rows.CheckSaysCardSaid := card_holds
#print axioms proved
end Go.Proofs.YtggidmjgadlolaaDoor.checkSays
namespace Go.Proofs.YtggidmjgadlolaaDoor
/-- The row, under a short name, for the claim. -/
theorem checkSays_holds : Rows.CheckSaysCardSaid := checkSays.proved
end Go.Proofs.YtggidmjgadlolaaDoor
