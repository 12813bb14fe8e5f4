/- Contracts: (*stage.Try).next. No condition. -/
import Derived.Test.YtddgcakiceodgaaGreatShad1
namespace Go.Proofs.YtddgcakiceodgaaGreat.EV
open Go Go.Proofs
set_option linter.unusedVariables false
set_option linter.unusedSimpArgs false
set_option maxRecDepth 100000
set_option pp.deepTerms false
set_option pp.deepTerms.threshold 20
/-- a try's cells -/
noncomputable def tryL (cb : Nat) (tag base st why age : Int) (bv qv : Value) (f : Nat → Bool) : List Value :=
  [ptr cb 0, .int .i64 tag, .int .i64 base, .int .i64 st, .int .i64 why, .int .i64 age, bv, qv, .bool (f 0), .bool (f 1), .bool (f 2), .bool (f 3), .bool (f 4), .bool (f 5)]
section
variable {cb qb lb mb tb : Nat} {v : Value} {tag base cur : Int} {l : List Pnt} {idle cage : Int} {h : Heap} {tg bs st why age : Int} {bv qv : Value} {f : Nat → Bool}
theorem next1_ev (q : CQ h cb qb lb mb v tag base cur l idle cage) (ht : h.get tb = .cells (tryL cb tg bs st why age bv qv f) 0) :
    WPo (EF Tryz.prog O0 35 [ptr tb 0, .int .i64 1] h) fun r => if f 1 then r = (.int .i64 13, h) else r = (.int .i64 0, h.set tb (.cells (tryL cb tg bs st why cage bv qv f) 0)) := by
  have hA := coreAge_ev q
  unfold tryL at *
  rw [EF_body (O := O0) (by kernel_rfl) Tryz.func35 rfl (rs := [.tmp 4]) rfl (bad := [1]) (by kernel_rfl) _ _ (m := 95) rfl]
  simp (maxSteps := 1000000) (disch := first | decide | omega | (simp only [go_sem]; first | done | omega)) only [go_sem, Int.reduceToNat, Nat.reduceMul, Nat.reduceAdd, Nat.reduceSub]
  (first | rw [EU_region] | rw [EU_draw _ _ rfl]); simp (maxSteps := 1000000) (disch := first | decide | omega | (simp only [go_sem]; first | done | omega)) only [go_sem, Int.reduceToNat, Nat.reduceMul, Nat.reduceAdd, Nat.reduceSub]
  rw [EU_bad _ _ rfl, EC_tab (tab := [(false, none), (false, none), (false, none), (false, none), (false, none), (false, none), (false, none), (true, none), (false, none), (false, none), (false, none), (false, (some (0, 1))), (false, none), (false, none)]) (by kernel_rfl)]
  simp (maxSteps := 1000000) (disch := first | decide | omega | (simp only [go_sem]; first | done | omega)) only [go_sem, Int.reduceToNat, Nat.reduceMul, Nat.reduceAdd, Nat.reduceSub, ↓EU_region, ↓EU_draw, ht, Int.reduceLT, Int.reduceEq, hA]
  cases hf : f 1 with
  | true =>
    rw [hf] at ht
    simp (maxSteps := 1000000) (disch := first | decide | omega | (simp only [go_sem]; first | done | omega)) only [go_sem, Int.reduceToNat, Nat.reduceMul, Nat.reduceAdd, Nat.reduceSub, ↓EU_region, ↓EU_draw, ht, Int.reduceLT, Int.reduceEq, hA, if_true]
  | false =>
    rw [hf] at ht
    simp (maxSteps := 1000000) (disch := first | decide | omega | (simp only [go_sem]; first | done | omega)) only [go_sem, Int.reduceToNat, Nat.reduceMul, Nat.reduceAdd, Nat.reduceSub, ↓EU_region, ↓EU_draw, ht, Int.reduceLT, Int.reduceEq, hA, if_false, Bool.false_eq_true]
theorem stale2_ev (q : CQ h cb qb lb mb v tag base cur l idle cage) (ht : h.get tb = .cells (tryL cb tg bs st why age bv qv f) 0) (hne : cage ≠ age) :
    EF Tryz.prog O0 35 [ptr tb 0, .int .i64 2] h = some (.int .i64 12, h) := by
  have : WPo (EF Tryz.prog O0 35 [ptr tb 0, .int .i64 2] h) fun r => r = (.int .i64 12, h) := by
    have hA := coreAge_ev q
    have hd : decide (cage = age) = false := decide_eq_false hne
    unfold tryL at *
    rw [EF_body (O := O0) (by kernel_rfl) Tryz.func35 rfl (rs := [.tmp 4]) rfl (bad := [1]) (by kernel_rfl) _ _ (m := 95) rfl]
    simp (maxSteps := 1000000) (disch := first | decide | omega | (simp only [go_sem]; first | done | omega)) only [go_sem, Int.reduceToNat, Nat.reduceMul, Nat.reduceAdd, Nat.reduceSub]
    (first | rw [EU_region] | rw [EU_draw _ _ rfl]); simp (maxSteps := 1000000) (disch := first | decide | omega | (simp only [go_sem]; first | done | omega)) only [go_sem, Int.reduceToNat, Nat.reduceMul, Nat.reduceAdd, Nat.reduceSub]
    rw [EU_bad _ _ rfl, EC_tab (tab := [(false, none), (false, none), (false, none), (false, none), (false, none), (false, none), (false, none), (true, none), (false, none), (false, none), (false, none), (false, (some (0, 1))), (false, none), (false, none)]) (by kernel_rfl)]
    simp (maxSteps := 1000000) (disch := first | decide | omega | (simp only [go_sem]; first | done | omega)) only [go_sem, Int.reduceToNat, Nat.reduceMul, Nat.reduceAdd, Nat.reduceSub, ↓EU_region, ↓EU_draw, ht, Int.reduceLT, Int.reduceEq, hA, hd]
  obtain ⟨r, e, rfl⟩ := this
  exact e
theorem forced2_ev (q : CQ h cb qb lb mb v tag base cur l idle cage) (ht : h.get tb = .cells (tryL cb tg bs st why cage bv qv f) 0) (hf : f 2 = true) :
    EF Tryz.prog O0 35 [ptr tb 0, .int .i64 2] h = some (.int .i64 13, h) := by
  have : WPo (EF Tryz.prog O0 35 [ptr tb 0, .int .i64 2] h) fun r => r = (.int .i64 13, h) := by
    have hA := coreAge_ev q
    unfold tryL at *
    rw [hf] at ht
    rw [EF_body (O := O0) (by kernel_rfl) Tryz.func35 rfl (rs := [.tmp 4]) rfl (bad := [1]) (by kernel_rfl) _ _ (m := 95) rfl]
    simp (maxSteps := 1000000) (disch := first | decide | omega | (simp only [go_sem]; first | done | omega)) only [go_sem, Int.reduceToNat, Nat.reduceMul, Nat.reduceAdd, Nat.reduceSub]
    (first | rw [EU_region] | rw [EU_draw _ _ rfl]); simp (maxSteps := 1000000) (disch := first | decide | omega | (simp only [go_sem]; first | done | omega)) only [go_sem, Int.reduceToNat, Nat.reduceMul, Nat.reduceAdd, Nat.reduceSub]
    rw [EU_bad _ _ rfl, EC_tab (tab := [(false, none), (false, none), (false, none), (false, none), (false, none), (false, none), (false, none), (true, none), (false, none), (false, none), (false, none), (false, (some (0, 1))), (false, none), (false, none)]) (by kernel_rfl)]
    simp (maxSteps := 1000000) (disch := first | decide | omega | (simp only [go_sem]; first | done | omega)) only [go_sem, Int.reduceToNat, Nat.reduceMul, Nat.reduceAdd, Nat.reduceSub, ↓EU_region, ↓EU_draw, ht, Int.reduceLT, Int.reduceEq, hA, decide_true]
  obtain ⟨r, e, rfl⟩ := this
  exact e
theorem stale3_ev (q : CQ h cb qb lb mb v tag base cur l idle cage) (ht : h.get tb = .cells (tryL cb tg bs st why age bv qv f) 0) (hne : cage ≠ age) :
    EF Tryz.prog O0 35 [ptr tb 0, .int .i64 3] h = some (.int .i64 12, h) := by
  have : WPo (EF Tryz.prog O0 35 [ptr tb 0, .int .i64 3] h) fun r => r = (.int .i64 12, h) := by
    have hA := coreAge_ev q
    have hd : decide (cage = age) = false := decide_eq_false hne
    unfold tryL at *
    rw [EF_body (O := O0) (by kernel_rfl) Tryz.func35 rfl (rs := [.tmp 4]) rfl (bad := [1]) (by kernel_rfl) _ _ (m := 95) rfl]
    simp (maxSteps := 1000000) (disch := first | decide | omega | (simp only [go_sem]; first | done | omega)) only [go_sem, Int.reduceToNat, Nat.reduceMul, Nat.reduceAdd, Nat.reduceSub]
    (first | rw [EU_region] | rw [EU_draw _ _ rfl]); simp (maxSteps := 1000000) (disch := first | decide | omega | (simp only [go_sem]; first | done | omega)) only [go_sem, Int.reduceToNat, Nat.reduceMul, Nat.reduceAdd, Nat.reduceSub]
    rw [EU_bad _ _ rfl, EC_tab (tab := [(false, none), (false, none), (false, none), (false, none), (false, none), (false, none), (false, none), (true, none), (false, none), (false, none), (false, none), (false, (some (0, 1))), (false, none), (false, none)]) (by kernel_rfl)]
    simp (maxSteps := 1000000) (disch := first | decide | omega | (simp only [go_sem]; first | done | omega)) only [go_sem, Int.reduceToNat, Nat.reduceMul, Nat.reduceAdd, Nat.reduceSub, ↓EU_region, ↓EU_draw, ht, Int.reduceLT, Int.reduceEq, hA, hd]
  obtain ⟨r, e, rfl⟩ := this
  exact e
theorem forced3_ev (q : CQ h cb qb lb mb v tag base cur l idle cage) (ht : h.get tb = .cells (tryL cb tg bs st why cage bv qv f) 0) (hf : f 3 = true) :
    EF Tryz.prog O0 35 [ptr tb 0, .int .i64 3] h = some (.int .i64 13, h) := by
  have : WPo (EF Tryz.prog O0 35 [ptr tb 0, .int .i64 3] h) fun r => r = (.int .i64 13, h) := by
    have hA := coreAge_ev q
    unfold tryL at *
    rw [hf] at ht
    rw [EF_body (O := O0) (by kernel_rfl) Tryz.func35 rfl (rs := [.tmp 4]) rfl (bad := [1]) (by kernel_rfl) _ _ (m := 95) rfl]
    simp (maxSteps := 1000000) (disch := first | decide | omega | (simp only [go_sem]; first | done | omega)) only [go_sem, Int.reduceToNat, Nat.reduceMul, Nat.reduceAdd, Nat.reduceSub]
    (first | rw [EU_region] | rw [EU_draw _ _ rfl]); simp (maxSteps := 1000000) (disch := first | decide | omega | (simp only [go_sem]; first | done | omega)) only [go_sem, Int.reduceToNat, Nat.reduceMul, Nat.reduceAdd, Nat.reduceSub]
    rw [EU_bad _ _ rfl, EC_tab (tab := [(false, none), (false, none), (false, none), (false, none), (false, none), (false, none), (false, none), (true, none), (false, none), (false, none), (false, none), (false, (some (0, 1))), (false, none), (false, none)]) (by kernel_rfl)]
    simp (maxSteps := 1000000) (disch := first | decide | omega | (simp only [go_sem]; first | done | omega)) only [go_sem, Int.reduceToNat, Nat.reduceMul, Nat.reduceAdd, Nat.reduceSub, ↓EU_region, ↓EU_draw, ht, Int.reduceLT, Int.reduceEq, hA, decide_true]
  obtain ⟨r, e, rfl⟩ := this
  exact e
theorem stale4_ev (q : CQ h cb qb lb mb v tag base cur l idle cage) (ht : h.get tb = .cells (tryL cb tg bs st why age bv qv f) 0) (hne : cage ≠ age) :
    EF Tryz.prog O0 35 [ptr tb 0, .int .i64 4] h = some (.int .i64 12, h) := by
  have : WPo (EF Tryz.prog O0 35 [ptr tb 0, .int .i64 4] h) fun r => r = (.int .i64 12, h) := by
    have hA := coreAge_ev q
    have hd : decide (cage = age) = false := decide_eq_false hne
    unfold tryL at *
    rw [EF_body (O := O0) (by kernel_rfl) Tryz.func35 rfl (rs := [.tmp 4]) rfl (bad := [1]) (by kernel_rfl) _ _ (m := 95) rfl]
    simp (maxSteps := 1000000) (disch := first | decide | omega | (simp only [go_sem]; first | done | omega)) only [go_sem, Int.reduceToNat, Nat.reduceMul, Nat.reduceAdd, Nat.reduceSub]
    (first | rw [EU_region] | rw [EU_draw _ _ rfl]); simp (maxSteps := 1000000) (disch := first | decide | omega | (simp only [go_sem]; first | done | omega)) only [go_sem, Int.reduceToNat, Nat.reduceMul, Nat.reduceAdd, Nat.reduceSub]
    rw [EU_bad _ _ rfl, EC_tab (tab := [(false, none), (false, none), (false, none), (false, none), (false, none), (false, none), (false, none), (true, none), (false, none), (false, none), (false, none), (false, (some (0, 1))), (false, none), (false, none)]) (by kernel_rfl)]
    simp (maxSteps := 1000000) (disch := first | decide | omega | (simp only [go_sem]; first | done | omega)) only [go_sem, Int.reduceToNat, Nat.reduceMul, Nat.reduceAdd, Nat.reduceSub, ↓EU_region, ↓EU_draw, ht, Int.reduceLT, Int.reduceEq, hA, hd]
  obtain ⟨r, e, rfl⟩ := this
  exact e
theorem forced4_ev (q : CQ h cb qb lb mb v tag base cur l idle cage) (ht : h.get tb = .cells (tryL cb tg bs st why cage bv qv f) 0) (hf : f 4 = true) :
    EF Tryz.prog O0 35 [ptr tb 0, .int .i64 4] h = some (.int .i64 13, h) := by
  have : WPo (EF Tryz.prog O0 35 [ptr tb 0, .int .i64 4] h) fun r => r = (.int .i64 13, h) := by
    have hA := coreAge_ev q
    unfold tryL at *
    rw [hf] at ht
    rw [EF_body (O := O0) (by kernel_rfl) Tryz.func35 rfl (rs := [.tmp 4]) rfl (bad := [1]) (by kernel_rfl) _ _ (m := 95) rfl]
    simp (maxSteps := 1000000) (disch := first | decide | omega | (simp only [go_sem]; first | done | omega)) only [go_sem, Int.reduceToNat, Nat.reduceMul, Nat.reduceAdd, Nat.reduceSub]
    (first | rw [EU_region] | rw [EU_draw _ _ rfl]); simp (maxSteps := 1000000) (disch := first | decide | omega | (simp only [go_sem]; first | done | omega)) only [go_sem, Int.reduceToNat, Nat.reduceMul, Nat.reduceAdd, Nat.reduceSub]
    rw [EU_bad _ _ rfl, EC_tab (tab := [(false, none), (false, none), (false, none), (false, none), (false, none), (false, none), (false, none), (true, none), (false, none), (false, none), (false, none), (false, (some (0, 1))), (false, none), (false, none)]) (by kernel_rfl)]
    simp (maxSteps := 1000000) (disch := first | decide | omega | (simp only [go_sem]; first | done | omega)) only [go_sem, Int.reduceToNat, Nat.reduceMul, Nat.reduceAdd, Nat.reduceSub, ↓EU_region, ↓EU_draw, ht, Int.reduceLT, Int.reduceEq, hA, decide_true]
  obtain ⟨r, e, rfl⟩ := this
  exact e
theorem stale5_ev (q : CQ h cb qb lb mb v tag base cur l idle cage) (ht : h.get tb = .cells (tryL cb tg bs st why age bv qv f) 0) (hne : cage ≠ age) :
    EF Tryz.prog O0 35 [ptr tb 0, .int .i64 5] h = some (.int .i64 12, h) := by
  have : WPo (EF Tryz.prog O0 35 [ptr tb 0, .int .i64 5] h) fun r => r = (.int .i64 12, h) := by
    have hA := coreAge_ev q
    have hd : decide (cage = age) = false := decide_eq_false hne
    unfold tryL at *
    rw [EF_body (O := O0) (by kernel_rfl) Tryz.func35 rfl (rs := [.tmp 4]) rfl (bad := [1]) (by kernel_rfl) _ _ (m := 95) rfl]
    simp (maxSteps := 1000000) (disch := first | decide | omega | (simp only [go_sem]; first | done | omega)) only [go_sem, Int.reduceToNat, Nat.reduceMul, Nat.reduceAdd, Nat.reduceSub]
    (first | rw [EU_region] | rw [EU_draw _ _ rfl]); simp (maxSteps := 1000000) (disch := first | decide | omega | (simp only [go_sem]; first | done | omega)) only [go_sem, Int.reduceToNat, Nat.reduceMul, Nat.reduceAdd, Nat.reduceSub]
    rw [EU_bad _ _ rfl, EC_tab (tab := [(false, none), (false, none), (false, none), (false, none), (false, none), (false, none), (false, none), (true, none), (false, none), (false, none), (false, none), (false, (some (0, 1))), (false, none), (false, none)]) (by kernel_rfl)]
    simp (maxSteps := 1000000) (disch := first | decide | omega | (simp only [go_sem]; first | done | omega)) only [go_sem, Int.reduceToNat, Nat.reduceMul, Nat.reduceAdd, Nat.reduceSub, ↓EU_region, ↓EU_draw, ht, Int.reduceLT, Int.reduceEq, hA, hd]
  obtain ⟨r, e, rfl⟩ := this
  exact e
theorem forced5_ev (q : CQ h cb qb lb mb v tag base cur l idle cage) (ht : h.get tb = .cells (tryL cb tg bs st why cage bv qv f) 0) (hf : f 5 = true) :
    EF Tryz.prog O0 35 [ptr tb 0, .int .i64 5] h = some (.int .i64 13, h) := by
  have : WPo (EF Tryz.prog O0 35 [ptr tb 0, .int .i64 5] h) fun r => r = (.int .i64 13, h) := by
    have hA := coreAge_ev q
    unfold tryL at *
    rw [hf] at ht
    rw [EF_body (O := O0) (by kernel_rfl) Tryz.func35 rfl (rs := [.tmp 4]) rfl (bad := [1]) (by kernel_rfl) _ _ (m := 95) rfl]
    simp (maxSteps := 1000000) (disch := first | decide | omega | (simp only [go_sem]; first | done | omega)) only [go_sem, Int.reduceToNat, Nat.reduceMul, Nat.reduceAdd, Nat.reduceSub]
    (first | rw [EU_region] | rw [EU_draw _ _ rfl]); simp (maxSteps := 1000000) (disch := first | decide | omega | (simp only [go_sem]; first | done | omega)) only [go_sem, Int.reduceToNat, Nat.reduceMul, Nat.reduceAdd, Nat.reduceSub]
    rw [EU_bad _ _ rfl, EC_tab (tab := [(false, none), (false, none), (false, none), (false, none), (false, none), (false, none), (false, none), (true, none), (false, none), (false, none), (false, none), (false, (some (0, 1))), (false, none), (false, none)]) (by kernel_rfl)]
    simp (maxSteps := 1000000) (disch := first | decide | omega | (simp only [go_sem]; first | done | omega)) only [go_sem, Int.reduceToNat, Nat.reduceMul, Nat.reduceAdd, Nat.reduceSub, ↓EU_region, ↓EU_draw, ht, Int.reduceLT, Int.reduceEq, hA, decide_true]
  obtain ⟨r, e, rfl⟩ := this
  exact e
theorem next2_ev (q : CQ h cb qb lb mb v tag base cur l idle cage) (ht : h.get tb = .cells (tryL cb tg bs st why cage bv qv f) 0) (hlt : tb < h.next) (hf : f 2 = false) (hl : l.length < 800000) (hw : Near base l) (hg : cgood tag cur (l.map (itP base)) = true) :
    WPo (EF Tryz.prog O0 35 [ptr tb 0, .int .i64 2] h) fun r => ∃ u, r.1 = .int .i64 0 ∧ Mod (fun i => i = tb) h r.2 ∧ r.2.get tb = .cells (tryL cb tg bs st why cage u qv f) 0 ∧ OW byteE 1 r.2 u (sealN (encF tag cur (l.map (itP base)))) ∧ Fresh h.next u := by
  have hA := coreAge_ev q
  unfold tryL at *
  rw [hf] at ht
  rw [EF_body (O := O0) (by kernel_rfl) Tryz.func35 rfl (rs := [.tmp 4]) rfl (bad := [1]) (by kernel_rfl) _ _ (m := 95) rfl]
  simp (maxSteps := 1000000) (disch := first | decide | omega | (simp only [go_sem]; first | done | omega)) only [go_sem, Int.reduceToNat, Nat.reduceMul, Nat.reduceAdd, Nat.reduceSub]
  (first | rw [EU_region] | rw [EU_draw _ _ rfl]); simp (maxSteps := 1000000) (disch := first | decide | omega | (simp only [go_sem]; first | done | omega)) only [go_sem, Int.reduceToNat, Nat.reduceMul, Nat.reduceAdd, Nat.reduceSub]
  rw [EU_bad _ _ rfl, EC_tab (tab := [(false, none), (false, none), (false, none), (false, none), (false, none), (false, none), (false, none), (true, none), (false, none), (false, none), (false, none), (false, (some (0, 1))), (false, none), (false, none)]) (by kernel_rfl)]
  simp (maxSteps := 1000000) (disch := first | decide | omega | (simp only [go_sem]; first | done | omega)) only [go_sem, Int.reduceToNat, Nat.reduceMul, Nat.reduceAdd, Nat.reduceSub, ↓EU_region, ↓EU_draw, ht, Int.reduceLT, Int.reduceEq, hA, decide_true]
  repeat refine WPo_ob ?_
  refine (write_ev q hl hw).mono ?_
  rintro ⟨w, h1⟩ ⟨x1, _, k⟩
  obtain ⟨u, e, ou, fu⟩ := k hg
  simp only at e ou x1
  subst e
  have ht1 := (x1.old tb hlt).trans ht
  obtain ⟨au, ku, e⟩ := ou.val
  subst e
  simp (maxSteps := 1000000) (disch := first | decide | omega | (simp only [go_sem]; first | done | omega)) only [go_sem, Int.reduceToNat, Nat.reduceMul, Nat.reduceAdd, Nat.reduceSub, ↓EU_region, ↓EU_draw, ht1, hf]
  refine ⟨_, trivial, (x1.mod _).set _ _ fun _ => rfl, by simp (maxSteps := 1000000) (disch := first | decide | omega | (simp only [go_sem]; first | done | omega)) only [go_sem, Int.reduceToNat, Nat.reduceMul, Nat.reduceAdd, Nat.reduceSub, ↓EU_region, ↓EU_draw], ou.mod (Mod.set (S := fun j => j = tb) (Mod.refl _ _) _ _ (fun _ => rfl)) (fun j hj q => by have := fu j hj; omega), fu⟩
theorem next3_ev (q : CQ h cb qb lb mb v tag base cur l idle cage) (ht : h.get tb = .cells (tryL cb tg bs st why cage bv qv f) 0) (hlt : tb < h.next) (hf : f 3 = false) (b : List UInt8) (hs : SL byteE 1 h bv b) (hl : b.length < 600000) (hlr : (readR b).2.2.2.1.length < 900000) (htg : tgood tg = true) (hbg : bgood bs = true) (hgd : (readR b).2.2.2.2 = 0 → goodF (readR b).2.2.1 (readR b).2.2.2.1 = true) :
    WPo (EF Tryz.prog O0 35 [ptr tb 0, .int .i64 3] h) fun r => r.1 = .int .i64 (readR b).2.2.2.2 ∧ Mod (fun i => i = tb) h r.2 ∧ ∃ u, r.2.get tb = .cells (tryL cb tg bs st why cage bv u f) 0 ∧ ((readR b).2.2.2.2 = 0 → ∃ qb lb v, u = ptr qb 0 ∧ PQ r.2 qb lb v tg bs (readR b).2.2.1 ((readR b).2.2.2.1.map (ptI bs)) ∧ h.next ≤ qb ∧ h.next ≤ lb ∧ Fresh h.next v) := by
  have hA := coreAge_ev q
  unfold tryL at *
  rw [hf] at ht
  rw [EF_body (O := O0) (by kernel_rfl) Tryz.func35 rfl (rs := [.tmp 4]) rfl (bad := [1]) (by kernel_rfl) _ _ (m := 95) rfl]
  simp (maxSteps := 1000000) (disch := first | decide | omega | (simp only [go_sem]; first | done | omega)) only [go_sem, Int.reduceToNat, Nat.reduceMul, Nat.reduceAdd, Nat.reduceSub]
  (first | rw [EU_region] | rw [EU_draw _ _ rfl]); simp (maxSteps := 1000000) (disch := first | decide | omega | (simp only [go_sem]; first | done | omega)) only [go_sem, Int.reduceToNat, Nat.reduceMul, Nat.reduceAdd, Nat.reduceSub]
  rw [EU_bad _ _ rfl, EC_tab (tab := [(false, none), (false, none), (false, none), (false, none), (false, none), (false, none), (false, none), (true, none), (false, none), (false, none), (false, none), (false, (some (0, 1))), (false, none), (false, none)]) (by kernel_rfl)]
  simp (maxSteps := 1000000) (disch := first | decide | omega | (simp only [go_sem]; first | done | omega)) only [go_sem, Int.reduceToNat, Nat.reduceMul, Nat.reduceAdd, Nat.reduceSub, ↓EU_region, ↓EU_draw, ht, Int.reduceLT, Int.reduceEq, hA, decide_true]
  repeat refine WPo_ob ?_
  refine (make_ev b bv tg bs h hs hl hlr).mono ?_
  rintro ⟨w, h1⟩ ⟨x1, _, k1, k2⟩
  have ht1 := (x1.old tb hlt).trans ht
  obtain ⟨ab, kb, e⟩ := hs.val
  subst e
  by_cases he : (readR b).2.2.2.2 = 0
  · obtain ⟨qb, lb, v, e, pq, hqb, hlb, fv⟩ := k2 htg he hbg (hgd he)
    simp only at e pq x1
    subst e
    simp (maxSteps := 1000000) (disch := first | decide | omega | (simp only [go_sem]; first | done | omega)) only [go_sem, Int.reduceToNat, Nat.reduceMul, Nat.reduceAdd, Nat.reduceSub, ↓EU_region, ↓EU_draw, ht1, hf]
    refine ⟨by rw [he], (x1.mod _).set _ _ fun _ => rfl, ptr qb 0, by simp (maxSteps := 1000000) (disch := first | decide | omega | (simp only [go_sem]; first | done | omega)) only [go_sem, Int.reduceToNat, Nat.reduceMul, Nat.reduceAdd, Nat.reduceSub, ↓EU_region, ↓EU_draw], fun _ => ⟨qb, lb, v, rfl, pq.mod (Mod.set (S := fun j => j = tb) (Mod.refl _ _) _ _ (fun _ => rfl)) (by omega) (by omega) (fun j hj q => by have := fv j hj; omega), hqb, hlb, fv⟩⟩
  · have e := k1 htg he
    simp only at e x1
    subst e
    unfold nilP
    simp (maxSteps := 1000000) (disch := first | decide | omega | (simp only [go_sem]; first | done | omega)) only [go_sem, Int.reduceToNat, Nat.reduceMul, Nat.reduceAdd, Nat.reduceSub, ↓EU_region, ↓EU_draw, ht1, hf]
    exact ⟨trivial, (x1.mod _).set _ _ fun _ => rfl, .pointer none, by simp (maxSteps := 1000000) (disch := first | decide | omega | (simp only [go_sem]; first | done | omega)) only [go_sem, Int.reduceToNat, Nat.reduceMul, Nat.reduceAdd, Nat.reduceSub, ↓EU_region, ↓EU_draw], fun h => absurd h he⟩
theorem next4_ev (q : CQ h cb qb lb mb v tag base cur l idle cage) {qb2 lb2 : Nat} {v2 : Value} {tag2 base2 cur2 : Int} {l2 : List Pnt} (q2 : PQ h qb2 lb2 v2 tag2 base2 cur2 l2) (ht : h.get tb = .cells (tryL cb tg bs st why cage bv (ptr qb2 0) f) 0) (hlt : tb < h.next) (hf : f 4 = false) (hl : l.length < 800000) (hw : Near base l) (hl2 : l2.length < 800000) (hw2 : Near base2 l2) :
    WPo (EF Tryz.prog O0 35 [ptr tb 0, .int .i64 4] h) fun r => r.1 = .int .i64 (if faultsF cur2 (l2.map (itP base2)) cur (l.map (itP base)) = [] then 0 else 11) ∧ Ext h r.2 := by
  have hA := coreAge_ev q
  unfold tryL at *
  rw [hf] at ht
  rw [EF_body (O := O0) (by kernel_rfl) Tryz.func35 rfl (rs := [.tmp 4]) rfl (bad := [1]) (by kernel_rfl) _ _ (m := 95) rfl]
  simp (maxSteps := 1000000) (disch := first | decide | omega | (simp only [go_sem]; first | done | omega)) only [go_sem, Int.reduceToNat, Nat.reduceMul, Nat.reduceAdd, Nat.reduceSub]
  (first | rw [EU_region] | rw [EU_draw _ _ rfl]); simp (maxSteps := 1000000) (disch := first | decide | omega | (simp only [go_sem]; first | done | omega)) only [go_sem, Int.reduceToNat, Nat.reduceMul, Nat.reduceAdd, Nat.reduceSub]
  rw [EU_bad _ _ rfl, EC_tab (tab := [(false, none), (false, none), (false, none), (false, none), (false, none), (false, none), (false, none), (true, none), (false, none), (false, none), (false, none), (false, (some (0, 1))), (false, none), (false, none)]) (by kernel_rfl)]
  simp (maxSteps := 1000000) (disch := first | decide | omega | (simp only [go_sem]; first | done | omega)) only [go_sem, Int.reduceToNat, Nat.reduceMul, Nat.reduceAdd, Nat.reduceSub, ↓EU_region, ↓EU_draw, ht, Int.reduceLT, Int.reduceEq, hA, decide_true]
  repeat refine WPo_ob ?_
  refine (fits_ev q q2 hl hw hl2 hw2).mono ?_
  rintro ⟨w, h1⟩ ⟨o1, f1, x1⟩
  simp only at o1 x1
  obtain ⟨a1, k1, e⟩ := o1.val
  subst e
  revert o1 f1
  generalize faultsF cur2 (l2.map (itP base2)) cur (l.map (itP base)) = fl
  intro o1 f1
  cases fl with
  | nil =>
    have hd : decide ((0 : Int) < ((0 : Nat) : Int)) = false := rfl
    simp (maxSteps := 1000000) (disch := first | decide | omega | (simp only [go_sem]; first | done | omega)) only [go_sem, Int.reduceToNat, Nat.reduceMul, Nat.reduceAdd, Nat.reduceSub, ↓EU_region, ↓EU_draw, List.length_nil, hd]
    exact ⟨by rw [if_pos trivial], x1⟩
  | cons x fl =>
    have hd : decide ((0 : Int) < ((fl.length + 1 : Nat) : Int)) = true := decide_eq_true (by omega)
    simp (maxSteps := 1000000) (disch := first | decide | omega | (simp only [go_sem]; first | done | omega)) only [go_sem, Int.reduceToNat, Nat.reduceMul, Nat.reduceAdd, Nat.reduceSub, ↓EU_region, ↓EU_draw, hd]
    exact ⟨by rw [if_neg (by simp)], x1⟩
theorem next5_ev (q : CQ h cb qb lb mb v tag base cur l idle cage) {qb2 lb2 : Nat} {v2 : Value} {tag2 base2 cur2 : Int} {l2 : List Pnt} (q2 : PQ h qb2 lb2 v2 tag2 base2 cur2 l2) (ht : h.get tb = .cells (tryL cb tg bs st why cage bv (ptr qb2 0) f) 0) (hlt : tb < h.next) (hf : f 5 = false) (hl : l.length < 800000) (hw : Near base l) (hl2 : l2.length < 800000) (hw2 : Near base2 l2) :
    WPo (EF Tryz.prog O0 35 [ptr tb 0, .int .i64 5] h) fun r => if cur2 = cur ∧ l2.map (itP base2) = l.map (itP base) then r.1 = .int .i64 0 ∧ Mod (fun i => i = cb) h r.2 ∧ r.2.get cb = .cells [ptr qb2 0, .map (some mb), .int .i64 idle, .int .i64 cage] 0 else r.1 = .int .i64 4 ∧ Ext h r.2 := by
  have hA := coreAge_ev q
  unfold tryL at *
  rw [hf] at ht
  rw [EF_body (O := O0) (by kernel_rfl) Tryz.func35 rfl (rs := [.tmp 4]) rfl (bad := [1]) (by kernel_rfl) _ _ (m := 95) rfl]
  simp (maxSteps := 1000000) (disch := first | decide | omega | (simp only [go_sem]; first | done | omega)) only [go_sem, Int.reduceToNat, Nat.reduceMul, Nat.reduceAdd, Nat.reduceSub]
  (first | rw [EU_region] | rw [EU_draw _ _ rfl]); simp (maxSteps := 1000000) (disch := first | decide | omega | (simp only [go_sem]; first | done | omega)) only [go_sem, Int.reduceToNat, Nat.reduceMul, Nat.reduceAdd, Nat.reduceSub]
  rw [EU_bad _ _ rfl, EC_tab (tab := [(false, none), (false, none), (false, none), (false, none), (false, none), (false, none), (false, none), (true, none), (false, none), (false, none), (false, none), (false, (some (0, 1))), (false, none), (false, none)]) (by kernel_rfl)]
  simp (maxSteps := 1000000) (disch := first | decide | omega | (simp only [go_sem]; first | done | omega)) only [go_sem, Int.reduceToNat, Nat.reduceMul, Nat.reduceAdd, Nat.reduceSub, ↓EU_region, ↓EU_draw, ht, Int.reduceLT, Int.reduceEq, hA, decide_true]
  repeat refine WPo_ob ?_
  refine (change_ev q q2 hl hw hl2 hw2).mono ?_
  rintro ⟨w, h1⟩ k
  by_cases hc : cur2 = cur ∧ l2.map (itP base2) = l.map (itP base)
  · rw [if_pos hc] at k
    obtain ⟨e, m1, k3⟩ := k
    simp only at e m1 k3
    subst e
    simp (maxSteps := 1000000) (disch := first | decide | omega | (simp only [go_sem]; first | done | omega)) only [go_sem, Int.reduceToNat, Nat.reduceMul, Nat.reduceAdd, Nat.reduceSub, ↓EU_region, ↓EU_draw, if_pos hc]
    exact ⟨trivial, m1, k3⟩
  · rw [if_neg hc] at k
    obtain ⟨e, m1⟩ := k
    simp only at e m1
    subst e
    simp (maxSteps := 1000000) (disch := first | decide | omega | (simp only [go_sem]; first | done | omega)) only [go_sem, Int.reduceToNat, Nat.reduceMul, Nat.reduceAdd, Nat.reduceSub, ↓EU_region, ↓EU_draw, if_neg hc]
    exact ⟨trivial, m1⟩
end
end Go.Proofs.YtddgcakiceodgaaGreat.EV
