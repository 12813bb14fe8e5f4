/- OwedKnown answers true, whatever comes in; no condition beyond the given row's. Out of the plain theorem of YtmkfdoomoeiibaaDoorLawOKnown, by a program of this session. -/
import Derived.Test.YtmkfdoomoeiibaaDoorRows
import Derived.Test.YtmkfdoomoeiibaaDoorCards
import Derived.Test.YtmkfdoomoeiibaaDoorTie
import Derived.Test.YtmkfdoomoeiibaaDoorLawOKnown
import Derived.WalkKit
import Derived.ProofKit
import Derived.OpenShut
import Derived.ShutString
import Derived.ChangeOld
import Derived.Below
import Derived.SizedLaws
import Derived.Lib.SmallJoins
import Derived.LaidMore
import Derived.Lay
import Derived.Stop.LaidErr
import Derived.Stop.Joined
import Derived.SevenTiedAt
namespace Go.Proofs.YtmkfdoomoeiibaaDoor.owedKnown
open Go.ChangeShapes Go.WideShapes Go.ChangeAt Go.RowKit Go.Joins
open Go.ChangeMaps (open_string shut_string)
set_option linter.unusedVariables false
set_option linter.unusedSimpArgs false
theorem own : ownKnob Tryd.prog.godebug = none := by kernel_rfl
theorem laidOut : laidOutB Tryd.prog = true := by kernel_rfl
set_option maxRecDepth 100000 in
theorem names : (Tryd.prog.funcs.toList.all fun fn => !(fn.name == "runtime.NumGoroutine")) = true := by decide +kernel
theorem laid_tab {w : World} (h : laidMetH Tryd.prog Rows.owedKnownRow.laid w) : EV.TabW w := by
  rw [MakeChecks.laidMetH_plain _ _ _ (by kernel_rfl)] at h
  have ht : EV.tabOK w := by
    refine Lib.tabIs_of_head (n := 20) EV.gPow (t := 79) (e := 61) (by kernel_rfl) Tryd.underlying79 Tryd.underlying61 (by kernel_rfl) (by kernel_rfl) (rest := []) ?_
    have e : (Rows.laid_internal_strconv_uint64pow10 : DataW Unit) = Lib.tabData .u64 Lib.pow10Tab := by kernel_rfl
    rw [← e]
    exact (laidMet.tail (laidMet.tail h))
  refine ⟨?_, ht⟩
  unfold EV.tabOK Lib.TabIs World.var? at ht
  rw [EV.gPow] at ht
  rcases Nat.lt_or_ge 0 w.heap.size with q | q
  · exact q
  · have e : w.heap[0]? = Option.none := Array.getElem?_eq_none q
    simp only [Option.bind_some, e] at ht
    cases ht
set_option maxRecDepth 100000 in
theorem lifted (os : Os) (started : os.Started) (H : Type) (enc : TypeId × Value → H) :
    ReturnsInHanded {} Tryd.checked os 6 .any (fun w args => (Rows.owedKnownSpec.pre enc Tryd.prog Tryd.f6 Rows.owedKnownRow.domain false w args ∧ laidMetH Tryd.prog Rows.owedKnownRow.laid w) ∧ sizedMet enc Tryd.prog Tryd.f6 (OpenSpec.ofChange Rows.owedKnownSpec) false w args) (Rows.owedKnownSpec.post enc Tryd.prog Tryd.f6 false true false false) := by
  refine returnsInHanded_of_change_and (C := Tryd.checked) (X := fun w _ => laidMetH Tryd.prog Rows.owedKnownRow.laid w) (fun _ _ _ hh h => h.of_heap hh) own started (by kernel_rfl) Tryd.func6
    (ChangeSpec.witness_shaped (enc := enc) (C := Tryd.checked) (os := os) (X := fun w _ => laidMetH Tryd.prog Rows.owedKnownRow.laid w) false (World.laidAll Tryd.prog os Rows.owedKnownRow.laid) #[] 8 (World.laidAll_os _ _ _) (World.shaped_of_ZipB (by kernel_rfl) (by kernel_rfl)) (by kernel_rfl) (by kernel_rfl) (by kernel_rfl)
      (by rw [MakeChecks.laidMetH_plain _ _ _ (by kernel_rfl)]; exact laidMet_laidAll _ (by kernel_rfl) (by kernel_rfl))) ?_
  intro W base args ds gs before hval0 hW hcnd hsz0 hL _
  have tw : EV.TabW W := laid_tab hL
  have hval : ∀ (j : Nat) t v, Tryd.f6.params[j]? = some t → args[j]? = some v → Value.okWide Tryd.prog W .any base t v := hval0
  have hW' := hW
  obtain ⟨p, q, hA0, hV, rfl, hfz, hnd⟩ := hW
  have hA : DataW.TrodAll enc Tryd.prog W 0 (fun _ => true) true Tryd.f6.params.toList args.toList ds p := hA0
  rw [Tryd.params6] at hA hval
  obtain ⟨rfl, rfl, rfl⟩ := trodAll_none hA
  obtain ⟨rfl, rfl⟩ := trodVars_none hV
  have G0 := EV.HR.start W tw
  refine (EV.EF_calls (args := []) (fun fn hf e => by have := List.all_eq_true.1 names fn hf; rw [e] at this; simp at this) (by kernel_rfl) EV.O0_sound G0 (EV.LR.nil _) (EV.law_OwedKnown ⟨0, .nil⟩ )).mono fun e W' ⟨he, bel⟩ => ?_
  subst he
  exact ⟨_, rfl, _, _, _, [], _, [], hW', trodAll_mk1 (shut_bool Tryd.underlying4 _), trodAll_mk0, rfl, bel.frame _, fun h => by cases h⟩
theorem over : Rows.owedKnownRow.holds Tryd.pinned (OpenSpec.ofChange Rows.owedKnownSpec) :=
  OpenClaim.holds_of_wide 6 Tryd.f6 rfl rfl rfl rfl rfl rfl rfl ⟨rfl, rfl, rfl, rfl, rfl⟩ rfl rfl rfl rfl rfl (by kernel_rfl) Tryd.func6 (by kernel_rfl)
    (of_decide_eq_true (by kernel_rfl)) (by unfold Func.isWrapper; first | (rw [if_pos (by decide +kernel)]; kernel_rfl) | (rw [if_neg (by decide +kernel)]; exact ⟨rfl, rfl⟩))
    (fun os started H enc _ => lifted os started H enc)
theorem card_holds : Rows.OwedKnownCardSaid :=
  Claim7.holds_tied_plain_at .later [] [.data, .data, .data] true (true, "e25fd8081442c27872d3e88def8f26cf86809618c0ccef3542224dbad28b39ca") false over (fun _ h => by cases h) (by kernel_rfl) (fun _ h => by cases h) owedKnown_row_tie rfl ⟨rfl, rfl⟩ (by kernel_rfl) rfl
    (fun f fn hf hfn => by
      obtain rfl : f = 6 := Option.some.inj ((show Tryd.prog.funcNamed "stadholder/stadholderlaw10.OwedKnown" = some 6 by kernel_rfl).symm.trans hf) |>.symm
      obtain rfl : fn = Tryd.f6 := (Option.some.inj (Tryd.func6.symm.trans hfn)).symm
      exact ⟨by kernel_rfl, fun j t ht => by
        rw [Tryd.params6] at ht
        have hm : t ∈ [] := by simpa using Array.mem_of_getElem? ht
        have hall : ([].all fun u => !Tryd.prog.wantsStandIn u) = true := by kernel_rfl
        exact (show Tryd.prog.wantsStandIn t = false by simpa using List.all_eq_true.1 hall t hm)⟩)
    (by kernel_rfl)
theorem proved : Rows.OwedKnownCardSaid := card_holds
#print axioms proved
end Go.Proofs.YtmkfdoomoeiibaaDoor.owedKnown
namespace Go.Proofs.YtmkfdoomoeiibaaDoor
/-- The row, under a short name, for the claim. -/
theorem owedKnown_holds : Rows.OwedKnownCardSaid := owedKnown.proved
end Go.Proofs.YtmkfdoomoeiibaaDoor
