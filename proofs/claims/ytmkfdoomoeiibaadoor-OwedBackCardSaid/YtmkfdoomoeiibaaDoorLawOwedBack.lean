/- OwedBack answers true, whatever comes in; no condition beyond the given row's. Out of the plain theorem of YtmkfdoomoeiibaaDoorLawOBack, by a program of this session. -/
import Derived.Test.YtmkfdoomoeiibaaDoorRows
import Derived.Test.YtmkfdoomoeiibaaDoorCards
import Derived.Test.YtmkfdoomoeiibaaDoorTie
import Derived.Test.YtmkfdoomoeiibaaDoorLawOBack
import Derived.WalkKit
import Derived.ProofKit
import Derived.OpenShut
import Derived.ShutString
import Derived.ChangeOld
import Derived.Below
import Derived.SizedLaws
import Derived.Lib.SmallJoins
import Derived.LaidMore
import Derived.Lay
import Derived.Stop.LaidErr
import Derived.Stop.Joined
import Derived.SevenTiedAt
namespace Go.Proofs.YtmkfdoomoeiibaaDoor.owedBack
open Go.ChangeShapes Go.WideShapes Go.ChangeAt Go.RowKit Go.Joins
open Go.ChangeMaps (open_string shut_string)
set_option linter.unusedVariables false
set_option linter.unusedSimpArgs false
theorem own : ownKnob Tryd.prog.godebug = none := by kernel_rfl
theorem laidOut : laidOutB Tryd.prog = true := by kernel_rfl
set_option maxRecDepth 100000 in
theorem names : (Tryd.prog.funcs.toList.all fun fn => !(fn.name == "runtime.NumGoroutine")) = true := by decide +kernel
theorem laid_tab {w : World} (h : laidMetH Tryd.prog Rows.owedBackRow.laid w) : EV.TabW w := by
  rw [MakeChecks.laidMetH_plain _ _ _ (by kernel_rfl)] at h
  have ht : EV.tabOK w := by
    refine Lib.tabIs_of_head (n := 20) EV.gPow (t := 79) (e := 61) (by kernel_rfl) Tryd.underlying79 Tryd.underlying61 (by kernel_rfl) (by kernel_rfl) (rest := []) ?_
    have e : (Rows.laid_internal_strconv_uint64pow10 : DataW Unit) = Lib.tabData .u64 Lib.pow10Tab := by kernel_rfl
    rw [← e]
    exact (laidMet.tail (laidMet.tail h))
  refine ⟨?_, ht⟩
  unfold EV.tabOK Lib.TabIs World.var? at ht
  rw [EV.gPow] at ht
  rcases Nat.lt_or_ge 0 w.heap.size with q | q
  · exact q
  · have e : w.heap[0]? = Option.none := Array.getElem?_eq_none q
    simp only [Option.bind_some, e] at ht
    cases ht
set_option maxRecDepth 100000 in
theorem lifted (os : Os) (started : os.Started) (H : Type) (enc : TypeId × Value → H) :
    ReturnsInHanded {} Tryd.checked os 5 .any (fun w args => (Rows.owedBackSpec.pre enc Tryd.prog Tryd.f5 Rows.owedBackRow.domain false w args ∧ laidMetH Tryd.prog Rows.owedBackRow.laid w) ∧ sizedMet enc Tryd.prog Tryd.f5 (OpenSpec.ofChange Rows.owedBackSpec) false w args) (Rows.owedBackSpec.post enc Tryd.prog Tryd.f5 false true false false) := by
  refine returnsInHanded_of_change_and (C := Tryd.checked) (X := fun w _ => laidMetH Tryd.prog Rows.owedBackRow.laid w) (fun _ _ _ hh h => h.of_heap hh) own started (by kernel_rfl) Tryd.func5
    (ChangeSpec.witness_shaped (enc := enc) (C := Tryd.checked) (os := os) (X := fun w _ => laidMetH Tryd.prog Rows.owedBackRow.laid w) false (World.laidAll Tryd.prog os Rows.owedBackRow.laid) #[.agg #[.int .i64 0, .slice none 0 0], .agg #[.int .i64 0, .int .i64 0, .int .i64 0]] 8 (World.laidAll_os _ _ _) (World.shaped_of_ZipB (by kernel_rfl) (by kernel_rfl)) (by kernel_rfl) (by kernel_rfl) (by kernel_rfl)
      (by rw [MakeChecks.laidMetH_plain _ _ _ (by kernel_rfl)]; exact laidMet_laidAll _ (by kernel_rfl) (by kernel_rfl))) ?_
  intro W base args ds gs before hval0 hW hcnd hsz0 hL _
  have tw : EV.TabW W := laid_tab hL
  have hval : ∀ (j : Nat) t v, Tryd.f5.params[j]? = some t → args[j]? = some v → Value.okWide Tryd.prog W .any base t v := hval0
  have hW' := hW
  obtain ⟨p, q, hA0, hV, rfl, hfz, hnd⟩ := hW
  have hA : DataW.TrodAll enc Tryd.prog W 0 (fun _ => true) true Tryd.f5.params.toList args.toList ds p := hA0
  rw [Tryd.params5] at hA hval
  obtain ⟨v0, vs0, d0, ds0, p0, q0, hargs, rfl, rfl, h0, r0⟩ := trodAll_cons hA
  obtain ⟨v1, vs1, d1, ds1, p1, q1, rfl, rfl, rfl, h1, r1⟩ := trodAll_cons r0
  obtain ⟨rfl, rfl, rfl⟩ := trodAll_nil r1
  obtain rfl : args = #[v0, v1] := by cases args; simp_all
  obtain ⟨rfl, rfl⟩ := trodVars_none hV
  have G0 := EV.HR.start W tw
  have k0 := h0
  have lt0 : ∀ x ∈ p0, x.block < W.heap.size := by obtain ⟨m, hm⟩ := k0; exact DataW.trod_lt m _ _ _ hm
  obtain ⟨va0, vb0, ya0, yb0, n0, rfl, hd0, hp0, ta0, tb0⟩ := open_agg2 Tryd.underlying24 (by kernel_rfl) (by kernel_rfl) (hval 0 24 _ rfl rfl) h0
  obtain ⟨c0, ec0, _, wc0⟩ := DataW.trod_int Tryd.underlying3 ta0
  injection ec0 with ec0
  subst ec0
  obtain ⟨A0, n0, m0, xs0, rfl, R0, lm0, w0⟩ := EV.open_row (e := EV.itemE) (es := 3) (Wf := EV.ItemWf) Tryd.underlying22 (by kernel_rfl) (fun _ => rfl) EV.open_item (fun ad len cap e => by subst e; exact EV.cellOk_slice Tryd.underlying22 (EV.valOk_cell Tryd.underlying24 (ts := [3, 22]) (by kernel_rfl) (hval 0 24 _ rfl rfl) (i := 1) rfl rfl)) tb0
  obtain ⟨N1, H1, u0, G1, X1, V0, S0, L0⟩ := EV.add_row (e := EV.itemE) G0 (fun _ => rfl) (by decide) (EV.itemE_flat xs0) R0
  have k1 := h1
  have lt1 : ∀ x ∈ p1, x.block < W.heap.size := by obtain ⟨m, hm⟩ := k1; exact DataW.trod_lt m _ _ _ hm
  obtain ⟨cs1, ev1, _⟩ := okWide_struct Tryd.underlying30 (hval 1 30 v1 rfl rfl)
  obtain ⟨fu1, hf1⟩ := h1
  rw [ev1] at hf1
  obtain ⟨z1, e1, w1⟩ := EV.open_item hf1
  obtain rfl : cs1 = ⟨EV.itemE z1⟩ := by cases cs1; simp only [Value.cells] at e1; rw [← e1]
  subst ev1
  refine (EV.EF_calls (args := [EV.formV c0 u0, .agg ⟨EV.itemE z1⟩]) (fun fn hf e => by have := List.all_eq_true.1 names fn hf; rw [e] at this; simp at this) (by kernel_rfl) EV.O0_sound G1 (EV.LR.cons (EV.VR_agg (EV.LR.cons (.int _ _) (EV.LR.cons V0 (EV.LR.nil _)))) (EV.LR.cons (EV.VR.of_flat _ (EV.itemE_flatV z1)) (EV.LR.nil _))) (EV.law_OwedBack H1 c0 wc0 u0 (xs0.take n0) S0 (fun z hz => w0 z (List.mem_of_mem_take hz)) z1 w1)).mono fun e W' ⟨he, bel⟩ => ?_
  subst he
  exact ⟨_, rfl, _, _, _, [], _, [], hW', trodAll_mk1 (shut_bool Tryd.underlying4 _), (trodAll_cons_mk (Below.trod laidOut (by kernel_rfl) (of_decide_eq_true (by kernel_rfl)) k0 bel lt0) (trodAll_cons_mk (Below.trod laidOut (by kernel_rfl) (of_decide_eq_true (by kernel_rfl)) k1 bel lt1) trodAll_mk0)), rfl, bel.frame _, fun h => by cases h⟩
theorem over : Rows.owedBackRow.holds Tryd.pinned (OpenSpec.ofChange Rows.owedBackSpec) :=
  OpenClaim.holds_of_wide 5 Tryd.f5 rfl rfl rfl rfl rfl rfl rfl ⟨rfl, rfl, rfl, rfl, rfl⟩ rfl rfl rfl rfl rfl (by kernel_rfl) Tryd.func5 (by kernel_rfl)
    (of_decide_eq_true (by kernel_rfl)) (by unfold Func.isWrapper; first | (rw [if_pos (by decide +kernel)]; kernel_rfl) | (rw [if_neg (by decide +kernel)]; exact ⟨rfl, rfl⟩))
    (fun os started H enc _ => lifted os started H enc)
theorem card_holds : Rows.OwedBackCardSaid :=
  Claim7.holds_tied_plain_at .later [] [.data, .data, .data] true (true, "e25fd8081442c27872d3e88def8f26cf86809618c0ccef3542224dbad28b39ca") false over (fun _ h => by cases h) (by kernel_rfl) (fun _ h => by cases h) owedBack_row_tie rfl ⟨rfl, rfl⟩ (by kernel_rfl) rfl
    (fun f fn hf hfn => by
      obtain rfl : f = 5 := Option.some.inj ((show Tryd.prog.funcNamed "stadholder/stadholderlaw10.OwedBack" = some 5 by kernel_rfl).symm.trans hf) |>.symm
      obtain rfl : fn = Tryd.f5 := (Option.some.inj (Tryd.func5.symm.trans hfn)).symm
      exact ⟨by kernel_rfl, fun j t ht => by
        rw [Tryd.params5] at ht
        have hm : t ∈ [24, 30] := by simpa using Array.mem_of_getElem? ht
        have hall : ([24, 30].all fun u => !Tryd.prog.wantsStandIn u) = true := by kernel_rfl
        exact (show Tryd.prog.wantsStandIn t = false by simpa using List.all_eq_true.1 hall t hm)⟩)
    (by kernel_rfl)
theorem proved : Rows.OwedBackCardSaid := card_holds
#print axioms proved
end Go.Proofs.YtmkfdoomoeiibaaDoor.owedBack
namespace Go.Proofs.YtmkfdoomoeiibaaDoor
/-- The row, under a short name, for the claim. -/
theorem owedBack_holds : Rows.OwedBackCardSaid := owedBack.proved
end Go.Proofs.YtmkfdoomoeiibaaDoor
