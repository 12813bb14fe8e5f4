/- MaskAround answers true, whatever comes in; no condition beyond the given row's. Out of the plain theorem of YtpgekabdemmlfaaDoorLawAround, by a program of this session. -/
import Derived.Test.YtpgekabdemmlfaaDoorRows
import Derived.Test.YtpgekabdemmlfaaDoorCards
import Derived.Test.YtpgekabdemmlfaaDoorTie
import Derived.Test.YtpgekabdemmlfaaDoorLawAround
import Derived.WalkKit
import Derived.ProofKit
import Derived.OpenShut
import Derived.ShutString
import Derived.ChangeOld
import Derived.Below
import Derived.SizedLaws
import Derived.Lib.SmallJoins
import Derived.LaidMore
import Derived.Lay
import Derived.Stop.LaidErr
import Derived.Stop.Joined
import Derived.SevenTiedAt
namespace Go.Proofs.YtpgekabdemmlfaaDoor.maskAround
open Go.ChangeShapes Go.WideShapes Go.ChangeAt Go.RowKit Go.Joins
open Go.ChangeMaps (open_string shut_string)
set_option linter.unusedVariables false
set_option linter.unusedSimpArgs false
theorem own : ownKnob Tryd.prog.godebug = none := by kernel_rfl
theorem laidOut : laidOutB Tryd.prog = true := by kernel_rfl
set_option maxRecDepth 100000 in
theorem names : (Tryd.prog.funcs.toList.all fun fn => !(fn.name == "runtime.NumGoroutine")) = true := by decide +kernel
theorem laid_tab {w : World} (h : laidMetH Tryd.prog Rows.maskAroundRow.laid w) : EV.TabW w := by
  rw [MakeChecks.laidMetH_plain _ _ _ (by kernel_rfl)] at h
  have ht : EV.tabOK w := by
    refine Lib.tabIs_of_head (n := 20) EV.gPow (t := 77) (e := 67) (by kernel_rfl) Tryd.underlying77 Tryd.underlying67 (by kernel_rfl) (by kernel_rfl) (rest := []) ?_
    have e : (Rows.laid_internal_strconv_uint64pow10 : DataW Unit) = Lib.tabData .u64 Lib.pow10Tab := by kernel_rfl
    rw [← e]
    exact (laidMet.tail (laidMet.tail h))
  refine ⟨?_, ht⟩
  unfold EV.tabOK Lib.TabIs World.var? at ht
  rw [EV.gPow] at ht
  rcases Nat.lt_or_ge 0 w.heap.size with q | q
  · exact q
  · have e : w.heap[0]? = Option.none := Array.getElem?_eq_none q
    simp only [Option.bind_some, e] at ht
    cases ht
set_option maxRecDepth 100000 in
theorem lifted (os : Os) (started : os.Started) (H : Type) (enc : TypeId × Value → H) :
    ReturnsInHanded {} Tryd.checked os 4 .any (fun w args => (Rows.maskAroundSpec.pre enc Tryd.prog Tryd.f4 Rows.maskAroundRow.domain false w args ∧ laidMetH Tryd.prog Rows.maskAroundRow.laid w) ∧ sizedMet enc Tryd.prog Tryd.f4 (OpenSpec.ofChange Rows.maskAroundSpec) false w args) (Rows.maskAroundSpec.post enc Tryd.prog Tryd.f4 false true false false) := by
  refine returnsInHanded_of_change_and (C := Tryd.checked) (X := fun w _ => laidMetH Tryd.prog Rows.maskAroundRow.laid w) (fun _ _ _ hh h => h.of_heap hh) own started (by kernel_rfl) Tryd.func4
    (ChangeSpec.witness_shaped (enc := enc) (C := Tryd.checked) (os := os) (X := fun w _ => laidMetH Tryd.prog Rows.maskAroundRow.laid w) false (World.laidAll Tryd.prog os Rows.maskAroundRow.laid) #[.int .u16 0, .int .i64 0] 8 (World.laidAll_os _ _ _) (World.shaped_of_ZipB (by kernel_rfl) (by kernel_rfl)) (by kernel_rfl) (by kernel_rfl) (by kernel_rfl)
      (by rw [MakeChecks.laidMetH_plain _ _ _ (by kernel_rfl)]; exact laidMet_laidAll _ (by kernel_rfl) (by kernel_rfl))) ?_
  intro W base args ds gs before hval0 hW hcnd hsz0 hL _
  have tw : EV.TabW W := laid_tab hL
  have hval : ∀ (j : Nat) t v, Tryd.f4.params[j]? = some t → args[j]? = some v → Value.okWide Tryd.prog W .any base t v := hval0
  have hW' := hW
  obtain ⟨p, q, hA0, hV, rfl, hfz, hnd⟩ := hW
  have hA : DataW.TrodAll enc Tryd.prog W 0 (fun _ => true) true Tryd.f4.params.toList args.toList ds p := hA0
  rw [Tryd.params4] at hA hval
  obtain ⟨v0, vs0, d0, ds0, p0, q0, hargs, rfl, rfl, h0, r0⟩ := trodAll_cons hA
  obtain ⟨v1, vs1, d1, ds1, p1, q1, rfl, rfl, rfl, h1, r1⟩ := trodAll_cons r0
  obtain ⟨rfl, rfl, rfl⟩ := trodAll_nil r1
  obtain rfl : args = #[v0, v1] := by cases args; simp_all
  obtain ⟨rfl, rfl⟩ := trodVars_none hV
  have G0 := EV.HR.start W tw
  obtain ⟨c0, rfl, rfl, rfl, w0⟩ := open_int Tryd.underlying22 (hval 0 22 v0 rfl rfl) h0
  obtain ⟨c1, rfl, rfl, rfl, w1⟩ := open_int Tryd.underlying3 (hval 1 3 v1 rfl rfl) h1
  refine (EV.EF_calls (args := [.int .u16 c0, .int .i64 c1]) (fun fn hf e => by have := List.all_eq_true.1 names fn hf; rw [e] at this; simp at this) (by kernel_rfl) EV.O0_sound G0 (EV.LR.cons (EV.VR.int _ _) (EV.LR.cons (EV.VR.int _ _) (EV.LR.nil _))) (EV.law_MaskAround ⟨0, .nil⟩ c0 w0 c1 w1)).mono fun e W' ⟨he, bel⟩ => ?_
  subst he
  exact ⟨_, rfl, _, _, _, [], _, [], hW', trodAll_mk1 (shut_bool Tryd.underlying4 _), (trodAll_cons_mk (shut_int Tryd.underlying22 w0) (trodAll_cons_mk (shut_int Tryd.underlying3 w1) trodAll_mk0)), rfl, bel.frame _, fun h => by cases h⟩
theorem over : Rows.maskAroundRow.holds Tryd.pinned (OpenSpec.ofChange Rows.maskAroundSpec) :=
  OpenClaim.holds_of_wide 4 Tryd.f4 rfl rfl rfl rfl rfl rfl rfl ⟨rfl, rfl, rfl, rfl, rfl⟩ rfl rfl rfl rfl rfl (by kernel_rfl) Tryd.func4 (by kernel_rfl)
    (of_decide_eq_true (by kernel_rfl)) (by unfold Func.isWrapper; first | (rw [if_pos (by decide +kernel)]; kernel_rfl) | (rw [if_neg (by decide +kernel)]; exact ⟨rfl, rfl⟩))
    (fun os started H enc _ => lifted os started H enc)
theorem card_holds : Rows.MaskAroundCardSaid :=
  Claim7.holds_tied_plain_at .later [] [.data, .data, .data] true (true, "f25e0ce99d8dd7379869500326aa8d272753f4fbdae6632e6a20c22175c43d89") false over (fun _ h => by cases h) (by kernel_rfl) (fun _ h => by cases h) maskAround_row_tie rfl ⟨rfl, rfl⟩ (by kernel_rfl) rfl
    (fun f fn hf hfn => by
      obtain rfl : f = 4 := Option.some.inj ((show Tryd.prog.funcNamed "stadholder/stadholderlaw3.MaskAround" = some 4 by kernel_rfl).symm.trans hf) |>.symm
      obtain rfl : fn = Tryd.f4 := (Option.some.inj (Tryd.func4.symm.trans hfn)).symm
      exact ⟨by kernel_rfl, fun j t ht => by
        rw [Tryd.params4] at ht
        have hm : t ∈ [22, 3] := by simpa using Array.mem_of_getElem? ht
        have hall : ([22, 3].all fun u => !Tryd.prog.wantsStandIn u) = true := by kernel_rfl
        exact (show Tryd.prog.wantsStandIn t = false by simpa using List.all_eq_true.1 hall t hm)⟩)
    (by kernel_rfl)
theorem proved : Rows.MaskAroundCardSaid := card_holds
#print axioms proved
end Go.Proofs.YtpgekabdemmlfaaDoor.maskAround
namespace Go.Proofs.YtpgekabdemmlfaaDoor
/-- The row, under a short name, for the claim. -/
theorem maskAround_holds : Rows.MaskAroundCardSaid := maskAround.proved
end Go.Proofs.YtpgekabdemmlfaaDoor
