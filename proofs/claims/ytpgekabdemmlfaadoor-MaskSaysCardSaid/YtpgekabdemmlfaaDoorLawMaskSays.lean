/- MaskSays answers true, whatever comes in; no condition beyond the given row's. Out of the plain theorem of YtpgekabdemmlfaaDoorLawMSays, by a program of this session. -/
import Derived.Test.YtpgekabdemmlfaaDoorRows
import Derived.Test.YtpgekabdemmlfaaDoorCards
import Derived.Test.YtpgekabdemmlfaaDoorTie
import Derived.Test.YtpgekabdemmlfaaDoorLawMSays
import Derived.WalkKit
import Derived.ProofKit
import Derived.OpenShut
import Derived.ShutString
import Derived.ChangeOld
import Derived.Below
import Derived.SizedLaws
import Derived.Lib.SmallJoins
import Derived.LaidMore
import Derived.Lay
import Derived.Stop.LaidErr
import Derived.Stop.Joined
import Derived.SevenTiedAt
namespace Go.Proofs.YtpgekabdemmlfaaDoor.maskSays
open Go.ChangeShapes Go.WideShapes Go.ChangeAt Go.RowKit Go.Joins
open Go.ChangeMaps (open_string shut_string)
set_option linter.unusedVariables false
set_option linter.unusedSimpArgs false
theorem own : ownKnob Tryd.prog.godebug = none := by kernel_rfl
theorem laidOut : laidOutB Tryd.prog = true := by kernel_rfl
set_option maxRecDepth 100000 in
theorem names : (Tryd.prog.funcs.toList.all fun fn => !(fn.name == "runtime.NumGoroutine")) = true := by decide +kernel
theorem laid_tab {w : World} (h : laidMetH Tryd.prog Rows.maskSaysRow.laid w) : EV.TabW w := by
  rw [MakeChecks.laidMetH_plain _ _ _ (by kernel_rfl)] at h
  have ht : EV.tabOK w := by
    refine Lib.tabIs_of_head (n := 20) EV.gPow (t := 77) (e := 67) (by kernel_rfl) Tryd.underlying77 Tryd.underlying67 (by kernel_rfl) (by kernel_rfl) (rest := []) ?_
    have e : (Rows.laid_internal_strconv_uint64pow10 : DataW Unit) = Lib.tabData .u64 Lib.pow10Tab := by kernel_rfl
    rw [← e]
    exact (laidMet.tail (laidMet.tail h))
  refine ⟨?_, ht⟩
  unfold EV.tabOK Lib.TabIs World.var? at ht
  rw [EV.gPow] at ht
  rcases Nat.lt_or_ge 0 w.heap.size with q | q
  · exact q
  · have e : w.heap[0]? = Option.none := Array.getElem?_eq_none q
    simp only [Option.bind_some, e] at ht
    cases ht
set_option maxRecDepth 100000 in
theorem lifted (os : Os) (started : os.Started) (H : Type) (enc : TypeId × Value → H) :
    ReturnsInHanded {} Tryd.checked os 6 .any (fun w args => (Rows.maskSaysSpec.pre enc Tryd.prog Tryd.f6 Rows.maskSaysRow.domain false w args ∧ laidMetH Tryd.prog Rows.maskSaysRow.laid w) ∧ sizedMet enc Tryd.prog Tryd.f6 (OpenSpec.ofChange Rows.maskSaysSpec) false w args) (Rows.maskSaysSpec.post enc Tryd.prog Tryd.f6 false true false false) := by
  refine returnsInHanded_of_change_and (C := Tryd.checked) (X := fun w _ => laidMetH Tryd.prog Rows.maskSaysRow.laid w) (fun _ _ _ hh h => h.of_heap hh) own started (by kernel_rfl) Tryd.func6
    (ChangeSpec.witness_shaped (enc := enc) (C := Tryd.checked) (os := os) (X := fun w _ => laidMetH Tryd.prog Rows.maskSaysRow.laid w) false (World.laidAll Tryd.prog os Rows.maskSaysRow.laid) #[.int .u16 0, .slice none 0 0, .int .i64 0, .int .i64 0] 8 (World.laidAll_os _ _ _) (World.shaped_of_ZipB (by kernel_rfl) (by kernel_rfl)) (by kernel_rfl) (by kernel_rfl) (by kernel_rfl)
      (by rw [MakeChecks.laidMetH_plain _ _ _ (by kernel_rfl)]; exact laidMet_laidAll _ (by kernel_rfl) (by kernel_rfl))) ?_
  intro W base args ds gs before hval0 hW hcnd hsz0 hL _
  have tw : EV.TabW W := laid_tab hL
  have hval : ∀ (j : Nat) t v, Tryd.f6.params[j]? = some t → args[j]? = some v → Value.okWide Tryd.prog W .any base t v := hval0
  have hW' := hW
  obtain ⟨p, q, hA0, hV, rfl, hfz, hnd⟩ := hW
  have hA : DataW.TrodAll enc Tryd.prog W 0 (fun _ => true) true Tryd.f6.params.toList args.toList ds p := hA0
  rw [Tryd.params6] at hA hval
  obtain ⟨v0, vs0, d0, ds0, p0, q0, hargs, rfl, rfl, h0, r0⟩ := trodAll_cons hA
  obtain ⟨v1, vs1, d1, ds1, p1, q1, rfl, rfl, rfl, h1, r1⟩ := trodAll_cons r0
  obtain ⟨v2, vs2, d2, ds2, p2, q2, rfl, rfl, rfl, h2, r2⟩ := trodAll_cons r1
  obtain ⟨v3, vs3, d3, ds3, p3, q3, rfl, rfl, rfl, h3, r3⟩ := trodAll_cons r2
  obtain ⟨rfl, rfl, rfl⟩ := trodAll_nil r3
  obtain rfl : args = #[v0, v1, v2, v3] := by cases args; simp_all
  obtain ⟨rfl, rfl⟩ := trodVars_none hV
  have G0 := EV.HR.start W tw
  obtain ⟨c0, rfl, rfl, rfl, w0⟩ := open_int Tryd.underlying22 (hval 0 22 v0 rfl rfl) h0
  have k1 := h1
  have lt1 : ∀ x ∈ p1, x.block < W.heap.size := by obtain ⟨m, hm⟩ := k1; exact DataW.trod_lt m _ _ _ hm
  obtain ⟨fu1, hf1⟩ := h1
  obtain ⟨a01, len01, cap01, ev1⟩ := okWide_slice Tryd.underlying27 (hval 1 27 v1 rfl rfl)
  have hf'1 := hf1
  rw [ev1] at hf'1
  simp only [Value.cells] at hf'1
  obtain ⟨A1, n1, m1, xs1, e1, R1, lm1, w1⟩ := EV.open_row (e := EV.intE .i64) (es := 1) (Wf := (fun z => (Lit.int .i64 z).wf = true)) Tryd.underlying27 (by kernel_rfl) (fun _ => rfl) (EV.open_int1 Tryd.underlying3) (fun ad len cap e => by have := (hval 1 27 v1 rfl rfl); rw [ev1, e] at this; exact EV.valOk_slice Tryd.underlying27 this) hf'1
  rw [e1] at ev1
  subst ev1
  obtain ⟨N1, H1, u1, G1, X1, V1, S1, L1⟩ := EV.add_row (e := EV.intE .i64) G0 (fun _ => rfl) (by decide) (EV.intE_flat xs1) R1
  obtain ⟨c2, rfl, rfl, rfl, w2⟩ := open_int Tryd.underlying3 (hval 2 3 v2 rfl rfl) h2
  obtain ⟨c3, rfl, rfl, rfl, w3⟩ := open_int Tryd.underlying3 (hval 3 3 v3 rfl rfl) h3
  refine (EV.EF_calls (args := [.int .u16 c0, u1, .int .i64 c2, .int .i64 c3]) (fun fn hf e => by have := List.all_eq_true.1 names fn hf; rw [e] at this; simp at this) (by kernel_rfl) EV.O0_sound G1 (EV.LR.cons ((EV.VR.int _ _).mono _) (EV.LR.cons (V1) (EV.LR.cons (EV.VR.int _ _) (EV.LR.cons (EV.VR.int _ _) (EV.LR.nil _))))) (EV.law_MaskSays H1 c0 w0 u1 (xs1.take n1) S1 (fun z hz => w1 z (List.mem_of_mem_take hz)) c2 w2 c3 w3)).mono fun e W' ⟨he, bel⟩ => ?_
  subst he
  exact ⟨_, rfl, _, _, _, [], _, [], hW', trodAll_mk1 (shut_bool Tryd.underlying4 _), (trodAll_cons_mk (shut_int Tryd.underlying22 w0) (trodAll_cons_mk (Below.trod laidOut (by kernel_rfl) (of_decide_eq_true (by kernel_rfl)) k1 bel lt1) (trodAll_cons_mk (shut_int Tryd.underlying3 w2) (trodAll_cons_mk (shut_int Tryd.underlying3 w3) trodAll_mk0)))), rfl, bel.frame _, fun h => by cases h⟩
theorem over : Rows.maskSaysRow.holds Tryd.pinned (OpenSpec.ofChange Rows.maskSaysSpec) :=
  OpenClaim.holds_of_wide 6 Tryd.f6 rfl rfl rfl rfl rfl rfl rfl ⟨rfl, rfl, rfl, rfl, rfl⟩ rfl rfl rfl rfl rfl (by kernel_rfl) Tryd.func6 (by kernel_rfl)
    (of_decide_eq_true (by kernel_rfl)) (by unfold Func.isWrapper; first | (rw [if_pos (by decide +kernel)]; kernel_rfl) | (rw [if_neg (by decide +kernel)]; exact ⟨rfl, rfl⟩))
    (fun os started H enc _ => lifted os started H enc)
theorem card_holds : Rows.MaskSaysCardSaid :=
  Claim7.holds_tied_plain_at .later [] [.data, .data, .data] true (true, "f25e0ce99d8dd7379869500326aa8d272753f4fbdae6632e6a20c22175c43d89") false over (fun _ h => by cases h) (by kernel_rfl) (fun _ h => by cases h) maskSays_row_tie rfl ⟨rfl, rfl⟩ (by kernel_rfl) rfl
    (fun f fn hf hfn => by
      obtain rfl : f = 6 := Option.some.inj ((show Tryd.prog.funcNamed "stadholder/stadholderlaw3.MaskSays" = some 6 by kernel_rfl).symm.trans hf) |>.symm
      obtain rfl : fn = Tryd.f6 := (Option.some.inj (Tryd.func6.symm.trans hfn)).symm
      exact ⟨by kernel_rfl, fun j t ht => by
        rw [Tryd.params6] at ht
        have hm : t ∈ [22, 27, 3, 3] := by simpa using Array.mem_of_getElem? ht
        have hall : ([22, 27, 3, 3].all fun u => !Tryd.prog.wantsStandIn u) = true := by kernel_rfl
        exact (show Tryd.prog.wantsStandIn t = false by simpa using List.all_eq_true.1 hall t hm)⟩)
    (by kernel_rfl)
theorem proved : Rows.MaskSaysCardSaid := card_holds
#print axioms proved
end Go.Proofs.YtpgekabdemmlfaaDoor.maskSays
namespace Go.Proofs.YtpgekabdemmlfaaDoor
/-- The row, under a short name, for the claim. -/
theorem maskSays_holds : Rows.MaskSaysCardSaid := maskSays.proved
end Go.Proofs.YtpgekabdemmlfaaDoor
