/- StageStale, plainly. No condition. StageStale answers true, whatever comes in; no condition beyond the given row's. Out of the plain theorem of YtddgcakiceodgaaGreatLawStale, by a program of this session. -/
import Derived.Test.YtddgcakiceodgaaGreatM18
import Derived.Test.YtddgcakiceodgaaGreatM19
import Derived.Test.YtddgcakiceodgaaGreatRows
import Derived.WalkKit
import Derived.ProofKit
import Derived.OpenShut
import Derived.ShutString
import Derived.ChangeOld
import Derived.Below
import Derived.SizedLaws
import Derived.Lib.SmallJoins
namespace Go.Proofs.YtddgcakiceodgaaGreat.EV
open Go Go.Proofs
set_option linter.unusedVariables false
set_option linter.unusedSimpArgs false
set_option maxRecDepth 100000
set_option pp.deepTerms false
set_option pp.deepTerms.threshold 20
theorem calm_good {base cur : Int} {l : List Item} (h : goodF cur l = true) (hb : bgood base = true) : Calm (l.map (ptI base)) := fun p hp => by
  obtain ⟨x, hx, rfl⟩ := List.mem_map.1 hp
  have := lnMay_facts (lnGood_may h x hx)
  have e : (ptI base x).v = base - x.lag := rfl
  have e2 : (ptI base x).w = x.w := rfl
  have := bgood_facts hb
  rw [e, e2]
  omega
theorem curR_near {base cur : Int} {l : List Pnt} (h : Calm l) (hb : bgood base = true) : Near base l := fun p hp => by
  have := h p hp
  have := bgood_facts hb
  omega
theorem chP_v (p : Pnt) : (chP p).v = p.v + wstep p.w := by
  unfold chP dayP
  split <;> rfl
theorem chP_w (p : Pnt) : (chP p).w = p.w := by
  unfold chP dayP
  split <;> rfl
theorem growB_cases (base : Int) (l : List Pnt) : growB base l = base ∨ ∃ p ∈ l, growB base l = p.v := by
  unfold growB
  cases hs : someP l with
  | false => exact .inl (if_neg (by decide))
  | true =>
    rw [if_pos rfl]
    split
    · refine .inr ⟨_, leastP_mem fun e => ?_, rfl⟩
      rw [e] at hs
      cases hs
    · exact .inl rfl
theorem chL_len (cur : Int) (l : List Pnt) : (chL cur l).length = l.length := by
  unfold chL
  split
  · exact List.length_set
  · rfl
theorem chL_mem {cur : Int} {l : List Pnt} {p : Pnt} (h : p ∈ chL cur l) : p ∈ l ∨ ∃ x ∈ l, p = chP x := by
  unfold chL at h
  cases hi : nowI cur l with
  | none => rw [hi] at h; exact .inl h
  | some i =>
    rw [hi] at h
    have hil := nowI_lt hi
    rcases List.mem_or_eq_of_mem_set h with h | h
    · exact .inl h
    · refine .inr ⟨l[i], List.getElem_mem hil, ?_⟩
      rw [h, List.getD_eq_getElem?_getD, List.getElem?_eq_getElem hil]
      rfl
theorem chL_near {base cur : Int} {l : List Pnt} (h : Calm l) (hb : bgood base = true) : Near (chB base cur l) (chL cur l) := by
  have hv : ∀ p ∈ chL cur l, -2305843009213693952 ≤ p.v ∧ p.v ≤ 2305843009213693952 := fun p hp => by
    rcases chL_mem hp with hp | ⟨x, hx, rfl⟩
    · have := h p hp; omega
    · have := h x hx
      have := wstep_le x.w
      rw [chP_v]
      omega
  have hb := bgood_facts hb
  have hbb : -2305843009213693952 ≤ chB base cur l ∧ chB base cur l ≤ 2305843009213693952 := by
    unfold chB
    unfold chL at hv
    cases hi : nowI cur l with
    | none => simp only; omega
    | some i =>
      rw [hi] at hv
      simp only at hv ⊢
      rcases growB_cases base (l.set i (chP (l.getD i zP))) with e | ⟨p, hp, e⟩
      · rw [e]; omega
      · rw [e]; exact hv p hp
  intro p hp
  have := hv p hp
  omega
theorem law_StageStale (h : Heap) (tag : Int) (wt : (Lit.int .i64 tag).wf = true) (cf : Int) (wf : (Lit.int .i64 cf).wf = true) (sf : Value) (lf : List Item) (hf : SL itemE 3 h sf lf) (wlf : ∀ z ∈ lf, ItemWf z) (to : Int) (wto : (Lit.int .i64 to).wf = true) (at' : Int) (wat : (Lit.int .i64 at').wf = true) :
    WPo (EF Tryz.prog O0 4 [.int .i64 tag, formV cf sf, .int .i64 to, .int .i64 at'] h) fun q => q.1 = .bool true := by
  rw [EF_body (O := O0) (by kernel_rfl) Tryz.func4 rfl (rs := [.tmp 8]) rfl (bad := [18]) (by kernel_rfl) _ _ (m := 90) rfl]
  obtain ⟨af, kf, e⟩ := hf.val
  subst e
  unfold formV
  by_cases hc : lf.length ≤ 64 ∧ 0 ≤ to ∧ to ≤ 2 ∧ 1 ≤ at' ∧ at' ≤ 4
  · have e1 : decide (64 < (lf.length : Int)) = false := decide_eq_false (by omega)
    have e2 : decide (to < 0) = false := decide_eq_false (by omega)
    have e3 : decide (2 < to) = false := decide_eq_false (by omega)
    have e4 : decide (at' < 1) = false := decide_eq_false (by omega)
    have e5 : decide (4 < at') = false := decide_eq_false (by omega)
    simp (disch := first|exact dis|fail) only [go_sem, Int.reduceToNat, Nat.reduceMul, Nat.reduceAdd, Nat.reduceSub, ↓EU_region, ↓EU_draw, awake_ev, e1, e2, e3, e4, e5]
    repeat refine WPo_ob ?_
    refine (fill_ev tag cf lf (.slice af lf.length kf) _ (hf.ext ((Ext.refl h).push _)) (by omega)).mono ?_
    rintro ⟨w, h1⟩ ⟨x1, k⟩
    simp only at x1 k
    cases hg : (tgood tag && goodF cf lf) with
    | false =>
      rw [hg, if_neg (by decide)] at k
      subst k
      unfold nilP
      simp (disch := first|exact dis|fail) only [go_sem, Int.reduceToNat, Nat.reduceMul, Nat.reduceAdd, Nat.reduceSub, ↓EU_region, ↓EU_draw]
    | true =>
      rw [hg, if_pos rfl] at k
      obtain ⟨cb, qb, lb, mb, v, e, cq, hcb⟩ := k
      subst e
      have hgf := (Bool.and_eq_true_iff.1 hg).2
      have htg := (Bool.and_eq_true_iff.1 hg).1
      simp (disch := first|exact dis|fail) only [go_sem, Int.reduceToNat, Nat.reduceMul, Nat.reduceAdd, Nat.reduceSub, ↓EU_region, ↓EU_draw]
      repeat refine WPo_ob ?_
      refine (stageNew_ev cb to 0 h1).mono ?_
      rintro ⟨w, h2⟩ ⟨x2, k⟩
      simp only at x2 k
      have hto : tgood to = true := by unfold tgood; rw [decide_eq_true hc.2.1, decide_eq_true hc.2.2.1]; rfl
      rw [hto, if_pos (by decide)] at k
      obtain ⟨tb, e, htb, htl, g2⟩ := k
      subst e
      have hcg : cgood tag cf lf = true := by
        unfold cgood
        rw [hgf, Bool.and_true]
        exact htg
      have k0 : KF cb tb tag to 0 cf lf 0 h2 := ⟨htl, noS, nilP, g2, ⟨qb, lb, mb, v, 0, cq.ext x2, rfl⟩, fun _ => rfl, fun h => absurd h (by decide), fun h => absurd h (by omega)⟩
      obtain ⟨m, rfl⟩ : ∃ m : Nat, at' = m := ⟨at'.toNat, by omega⟩
      simp (disch := first|exact dis|fail) only [go_sem, Int.reduceToNat, Nat.reduceMul, Nat.reduceAdd, Nat.reduceSub, ↓EU_region, ↓EU_draw]
      repeat refine WPo_ob ?_
      refine (LP_rule (fun k st => ∃ (n : Nat) (tm : Fr) (h3 : Heap), st = ⟨tm, h3, []⟩ ∧ k = m - n ∧ n ≤ m ∧ Fr.get tm 0 = .int .i64 tag ∧ Fr.get tm 3 = .int .i64 m ∧ Fr.get tm 9 = ptr cb 0 ∧ Fr.get tm 10 = ptr tb 0 ∧ Fr.get tm 12 = .int .i64 n ∧ KF cb tb tag to 0 cf lf n h3)
        (fun q => ∃ tm h3, q.2 = ⟨tm, h3, []⟩ ∧ q.1 = .exit 0 ∧ Fr.get tm 0 = .int .i64 tag ∧ Fr.get tm 9 = ptr cb 0 ∧ Fr.get tm 10 = ptr tb 0 ∧ KF cb tb tag to 0 cf lf m h3) ?_ m _ _ ?_ ?_).mono ?_
      · rintro k _ ⟨n, tm, h3, rfl, rfl, hn, g0, g3, g9, g10, g12, k3⟩
        simp (disch := first|exact dis|fail) only [go_sem, Int.reduceToNat, Nat.reduceMul, Nat.reduceAdd, Nat.reduceSub, ↓EU_region, ↓EU_draw, g3, g12]
        ((repeat refine WPo_ob ?_); (first | refine WPo_cond (fun b1 => ?_) (fun b1 => ?_) | refine WPo_gard (fun b1 => ?_) (fun b1 => ?_) | refine WPo_gardT (fun b1 => ?_) (fun b1 => ?_)) <;> (try simp only [Bool.not_eq_true', Bool.not_eq_false'] at b1))
        · simp only [decide_eq_true_eq] at b1
          simp (disch := first|exact dis|fail) only [go_sem, Int.reduceToNat, Nat.reduceMul, Nat.reduceAdd, Nat.reduceSub, ↓EU_region, ↓EU_draw, g0, g3, g9, g10, g12]
          repeat refine WPo_ob ?_
          refine (kstep k3 hcg hto rfl).mono ?_
          rintro ⟨w, h4⟩ ⟨e, k4, m4⟩
          simp only at e k4 m4
          subst e
          simp (disch := first|exact dis|fail) only [go_sem, Int.reduceToNat, Nat.reduceMul, Nat.reduceAdd, Nat.reduceSub, ↓EU_region, ↓EU_draw, g12]
          exact ⟨_, by omega, n + 1, _, _, rfl, rfl, by omega, by simp (disch := first|exact dis|fail) only [go_sem, Int.reduceToNat, Nat.reduceMul, Nat.reduceAdd, Nat.reduceSub, ↓EU_region, ↓EU_draw, g0], by simp (disch := first|exact dis|fail) only [go_sem, Int.reduceToNat, Nat.reduceMul, Nat.reduceAdd, Nat.reduceSub, ↓EU_region, ↓EU_draw, g3], by simp (disch := first|exact dis|fail) only [go_sem, Int.reduceToNat, Nat.reduceMul, Nat.reduceAdd, Nat.reduceSub, ↓EU_region, ↓EU_draw, g9], by simp (disch := first|exact dis|fail) only [go_sem, Int.reduceToNat, Nat.reduceMul, Nat.reduceAdd, Nat.reduceSub, ↓EU_region, ↓EU_draw, g10], by simp (disch := first|exact dis|fail) only [go_sem, Int.reduceToNat, Nat.reduceMul, Nat.reduceAdd, Nat.reduceSub, ↓EU_region, ↓EU_draw], k4⟩
        · simp only [decide_eq_false_iff_not] at b1
          have : n = m := by omega
          subst this
          simp (disch := first|exact dis|fail) only [go_sem, Int.reduceToNat, Nat.reduceMul, Nat.reduceAdd, Nat.reduceSub, ↓EU_region, ↓EU_draw]
          exact ⟨_, _, rfl, trivial, by simp (disch := first|exact dis|fail) only [go_sem, Int.reduceToNat, Nat.reduceMul, Nat.reduceAdd, Nat.reduceSub, ↓EU_region, ↓EU_draw, g0], by simp (disch := first|exact dis|fail) only [go_sem, Int.reduceToNat, Nat.reduceMul, Nat.reduceAdd, Nat.reduceSub, ↓EU_region, ↓EU_draw, g9], by simp (disch := first|exact dis|fail) only [go_sem, Int.reduceToNat, Nat.reduceMul, Nat.reduceAdd, Nat.reduceSub, ↓EU_region, ↓EU_draw, g10], k3⟩
      · exact ⟨0, _, _, rfl, rfl, by omega, by simp (disch := first|exact dis|fail) only [go_sem, Int.reduceToNat, Nat.reduceMul, Nat.reduceAdd, Nat.reduceSub, ↓EU_region, ↓EU_draw], by simp (disch := first|exact dis|fail) only [go_sem, Int.reduceToNat, Nat.reduceMul, Nat.reduceAdd, Nat.reduceSub, ↓EU_region, ↓EU_draw], by simp (disch := first|exact dis|fail) only [go_sem, Int.reduceToNat, Nat.reduceMul, Nat.reduceAdd, Nat.reduceSub, ↓EU_region, ↓EU_draw], by simp (disch := first|exact dis|fail) only [go_sem, Int.reduceToNat, Nat.reduceMul, Nat.reduceAdd, Nat.reduceSub, ↓EU_region, ↓EU_draw], by simp (disch := first|exact dis|fail) only [go_sem, Int.reduceToNat, Nat.reduceMul, Nat.reduceAdd, Nat.reduceSub, ↓EU_region, ↓EU_draw]; rfl, k0⟩
      · omega
      · rintro ⟨q, _⟩ ⟨tm, h3, rfl, rfl, g0, g9, g10, k3⟩
        obtain ⟨htl3, bv, qv, ht3, ⟨qb3, lb3, mb3, v3, bs3, c3, hbb⟩, _⟩ := k3
        rw [if_pos (by omega)] at c3
        have e6 : min m 5 = m := by omega
        rw [e6] at ht3
        obtain ⟨s3, hs3⟩ := c3.mp.s
        have hcalm := calm_good hgf hbb
        simp (disch := first|exact dis|fail) only [go_sem, Int.reduceToNat, Nat.reduceMul, Nat.reduceAdd, Nat.reduceSub, ↓EU_region, ↓EU_draw, g9]
        repeat refine WPo_ob ?_
        refine (coreRun_ev c3 hs3 (by rw [List.length_map]; omega) hcalm (by omega) (by omega)).mono ?_
        rintro ⟨w, h4⟩ ⟨e, c4, s4, m4⟩
        simp only at e c4 s4 m4
        subst e
        have hne1 : ∀ j, j = tb → ¬ (j = cb ∨ j = mb3 ∨ j = lb3 ∨ blkOf v3 j) := fun j e k => by
          subst e
          rcases k with k | k | k | k
          · exact c3.tne ht3 k.symm
          · exact c3.mne ht3 k
          · have := c3.pq.lq.gb; rw [← k, ht3] at this; unfold tryL at this; cases this
          · exact ow_ne c3.pq.lq.ow ht3 (by decide) k
        have ht4 := (m4.old tb htl3 (hne1 tb rfl)).trans ht3
        have hnear := chL_near (cur := curR tag cf (lf.map (ptI bs3))) hcalm hbb
        have hlen4 : (chL (curR tag cf (lf.map (ptI bs3))) (lf.map (ptI bs3))).length ≤ 64 := by rw [chL_len, List.length_map]; omega
        have htl4 : tb < h4.next := Nat.lt_of_lt_of_le htl3 m4.le
        generalize chL (curR tag cf (lf.map (ptI bs3))) (lf.map (ptI bs3)) = L at *
        generalize chB bs3 (curR tag cf (lf.map (ptI bs3))) (lf.map (ptI bs3)) = B at *
        generalize curR tag cf (lf.map (ptI bs3)) = C at *
        generalize (if (nowI C (lf.map (ptI bs3))).isSome = true then (0 : Int) else 0 + 1) = I at *
        simp (disch := first|exact dis|fail) only [go_sem, Int.reduceToNat, Nat.reduceMul, Nat.reduceAdd, Nat.reduceSub, ↓EU_region, ↓EU_draw, g0, g9, g10]
        repeat refine WPo_ob ?_
        refine (coreForm_ev c4 (by omega) hnear).mono ?_
        rintro ⟨w, h5⟩ ⟨u5, e, o5, f5, x5⟩
        simp only at e o5 x5
        subst e
        unfold formV
        obtain ⟨a5, k5, e⟩ := o5.val
        subst e
        have hl5 : (L.map (itP B)).length ≤ 64 := by rw [List.length_map]; exact hlen4
        generalize hLB : L.map (itP B) = LB at *
        have xp := x5.push (.cells [.int .i64 C, .slice a5 LB.length k5] 0)
        have ht5 := (xp.old tb htl4).trans ht4
        have c5 := c4.ext xp
        have o5' := o5.ext ((Ext.refl h5).push (.cells [.int .i64 C, .slice a5 LB.length k5] 0))
        have hn5 := x5.le
        have hN : EF Tryz.prog O0 35 [ptr tb 0, .int .i64 ((m : Int) + 1)] (h5.push (.cells [.int .i64 C, .slice a5 LB.length k5] 0)) = some (.int .i64 12, h5.push (.cells [.int .i64 C, .slice a5 LB.length k5] 0)) := by
          have hm : m = 1 ∨ m = 2 ∨ m = 3 ∨ m = 4 := by omega
          rcases hm with rfl | rfl | rfl | rfl
          · exact stale2_ev c5 ht5 (by decide)
          · exact stale3_ev c5 ht5 (by decide)
          · exact stale4_ev c5 ht5 (by decide)
          · exact stale5_ev c5 ht5 (by decide)
        have hstep : WPo (EF Tryz.prog O0 10 [ptr tb 0] (h5.push (.cells [.int .i64 C, .slice a5 LB.length k5] 0))) fun q => q = (.tuple ⟨[.int .i64 6, .int .i64 12]⟩, (h5.push (.cells [.int .i64 C, .slice a5 LB.length k5] 0)).set tb (.cells (tryL cb to 0 6 12 0 bv qv noF) 0)) := by
          refine step_ev ht5 (by omega) (by omega) (R := fun r => r = (.int .i64 12, h5.push (.cells [.int .i64 C, .slice a5 LB.length k5] 0))) ⟨_, hN, rfl⟩ ?_
          rintro r rfl
          exact ⟨12, 0, bv, qv, rfl, ht5, fun e => absurd e (by decide), fun _ => rfl⟩
        obtain ⟨_, hstep, rfl⟩ := hstep
        have mT := setM (h5.push (.cells [.int .i64 C, .slice a5 LB.length k5] 0)) tb (.cells (tryL cb to 0 6 12 0 bv qv noF) 0)
        have c6 := c5.modT ht5 mT
        have o6 : OW itemE 3 _ _ _ := o5'.mod mT fun j hj e => by subst e; exact ow_ne o5' ht5 (by decide) hj
        have hW6 : ((h5.push (.cells [.int .i64 C, .slice a5 LB.length k5] 0)).set tb (.cells (tryL cb to 0 6 12 0 bv qv noF) 0)).get h5.next = .cells [.int .i64 C, .slice a5 LB.length k5] 0 := by rw [get_set_ne _ (by omega)]; exact get_push_new _ _
        have ht6 : ((h5.push (.cells [.int .i64 C, .slice a5 LB.length k5] 0)).set tb (.cells (tryL cb to 0 6 12 0 bv qv noF) 0)).get tb = _ := get_set_same _ _ _
        have hn6 : h5.next < ((h5.push (.cells [.int .i64 C, .slice a5 LB.length k5] 0)).set tb (.cells (tryL cb to 0 6 12 0 bv qv noF) 0)).next := by rw [next_set, next_push]; omega
        simp (disch := first|exact dis|fail) only [go_sem, Int.reduceToNat, Nat.reduceMul, Nat.reduceAdd, Nat.reduceSub, ↓EU_region, ↓EU_draw, g0, g9, g10, hstep]
        generalize (h5.push (.cells [.int .i64 C, .slice a5 LB.length k5] 0)).set tb (.cells (tryL cb to 0 6 12 0 bv qv noF) 0) = h6 at *
        have hT6 := coreTag_ev c6
        have hW := stageWhy_ev ht6
        have dt : decide (tag = tag) = true := decide_eq_true rfl
        rw [EU_bad _ _ rfl, EC_tab (tab := [(false, none), (false, none), (false, none), (false, none), (false, none), (false, none), (false, none), (false, none), (true, none), (false, none), (false, none), (false, none), (false, none), (true, none), (false, none), (false, none), (false, none), (false, none), (false, none), (true, none), (false, (some (2, 3))), (true, none), (false, none), (false, none)]) (by kernel_rfl)]
        simp (disch := first|exact dis|fail) only [go_sem, Int.reduceToNat, Nat.reduceMul, Nat.reduceAdd, Nat.reduceSub, ↓EU_region, ↓EU_draw, g0, g9, g10, hW, hT6, dt, Int.reduceEq, decide_true]
        repeat refine WPo_ob ?_
        refine (coreForm_ev c6 (by omega) hnear).mono ?_
        rintro ⟨w, h7⟩ ⟨u7, e, o7, f7, x7⟩
        simp only at e o7 x7
        rw [hLB] at o7
        subst e
        unfold formV
        have hW7 := (x7.old _ hn6).trans hW6
        simp (disch := first|exact dis|fail) only [go_sem, Int.reduceToNat, Nat.reduceMul, Nat.reduceAdd, Nat.reduceSub, ↓EU_region, ↓EU_draw, g0, g9, g10, hW7]
        repeat refine WPo_ob ?_
        refine (same_ev C C LB LB u7 _ h7 o7.sl (o6.ext x7).sl (by omega)).bind fun h8 x8 => ?_
        have hvL : veqL [.int .i64 C, .slice a5 LB.length k5] [.int .i64 C, .slice a5 LB.length k5] = true := by
          show ((decide (IntKind.i64 = IntKind.i64) && decide (C = C)) && (veq (.slice a5 LB.length k5) (.slice a5 LB.length k5) && true)) = true
          rw [o6.veq, decide_eq_true rfl, decide_eq_true rfl]; rfl
        have dc : decide (C = C) = true := decide_eq_true rfl
        have dl : decide (LB = LB) = true := decide_eq_true rfl
        simp (disch := first|exact dis|fail) only [go_sem, Int.reduceToNat, Nat.reduceMul, Nat.reduceAdd, Nat.reduceSub, ↓EU_region, ↓EU_draw, g0, g9, g10, hW6, hW7, hvL, dc, dl, bne_self_eq_false]
  · simp (disch := first|exact dis|fail) only [go_sem, Int.reduceToNat, Nat.reduceMul, Nat.reduceAdd, Nat.reduceSub, ↓EU_region, ↓EU_draw, awake_ev]
    repeat' (((repeat refine WPo_ob ?_); (first | refine WPo_cond (fun hb => ?_) (fun hb => ?_) | refine WPo_gard (fun hb => ?_) (fun hb => ?_) | refine WPo_gardT (fun hb => ?_) (fun hb => ?_)) <;> (try simp only [Bool.not_eq_true', Bool.not_eq_false'] at hb)) <;> (simp (disch := first|exact dis|fail) only [go_sem, Int.reduceToNat, Nat.reduceMul, Nat.reduceAdd, Nat.reduceSub, ↓EU_region, ↓EU_draw, hb]))
    all_goals (exfalso; simp only [decide_eq_true_eq, decide_eq_false_iff_not] at *; omega)
end Go.Proofs.YtddgcakiceodgaaGreat.EV
namespace Go.Proofs.YtddgcakiceodgaaGreat.stageStale
open Go.ChangeShapes Go.WideShapes Go.ChangeAt Go.RowKit Go.Joins
open Go.ChangeMaps (open_string shut_string)
set_option linter.unusedVariables false
set_option linter.unusedSimpArgs false
theorem own : ownKnob Tryz.prog.godebug = none := by kernel_rfl
theorem laidOut : laidOutB Tryz.prog = true := by kernel_rfl
set_option maxRecDepth 100000 in
theorem names : (Tryz.prog.funcs.toList.all fun fn => !(fn.name == "runtime.NumGoroutine")) = true := by decide +kernel
set_option maxRecDepth 100000 in
theorem lifted (os : Os) (started : os.Started) (H : Type) (enc : TypeId × Value → H) :
    ReturnsInHanded {} Tryz.checked os 4 .any (Rows.stageStaleSpec.pre6 enc Tryz.prog Tryz.f4 Rows.stageStaleRow.domain false) (Rows.stageStaleSpec.post enc Tryz.prog Tryz.f4 false true false false) := by
  refine returnsInHanded_of_change_sized (C := Tryz.checked) own started (by kernel_rfl) Tryz.func4
    (ChangeSpec.witness6 (enc := enc) (C := Tryz.checked) false ⟨#[], #[.int .i64 0, .agg #[.int .i64 0, .slice none 0 0], .int .i64 0, .int .i64 0], []⟩ 8 (by kernel_rfl) (by kernel_rfl) (by kernel_rfl) (by kernel_rfl)) ?_
  intro W base args ds gs before hval0 hW hcnd hsz0 _
  have hval : ∀ (j : Nat) t v, Tryz.f4.params[j]? = some t → args[j]? = some v → Value.okWide Tryz.prog W .any base t v := hval0
  have hW' := hW
  obtain ⟨p, q, hA0, hV, rfl, hfz, hnd⟩ := hW
  have hA : DataW.TrodAll enc Tryz.prog W 0 (fun _ => true) true Tryz.f4.params.toList args.toList ds p := hA0
  rw [Tryz.params4] at hA hval
  obtain ⟨v0, vs0, d0, ds0, p0, q0, hargs, rfl, rfl, h0, r0⟩ := trodAll_cons hA
  obtain ⟨v1, vs1, d1, ds1, p1, q1, rfl, rfl, rfl, h1, r1⟩ := trodAll_cons r0
  obtain ⟨v2, vs2, d2, ds2, p2, q2, rfl, rfl, rfl, h2, r2⟩ := trodAll_cons r1
  obtain ⟨v3, vs3, d3, ds3, p3, q3, rfl, rfl, rfl, h3, r3⟩ := trodAll_cons r2
  obtain ⟨rfl, rfl, rfl⟩ := trodAll_nil r3
  obtain rfl : args = #[v0, v1, v2, v3] := by cases args; simp_all
  obtain ⟨rfl, rfl⟩ := trodVars_none hV
  have G0 := EV.HR.start W
  obtain ⟨c0, rfl, rfl, rfl, w0⟩ := open_int Tryz.underlying3 (hval 0 3 v0 rfl rfl) h0
  have k1 := h1
  have lt1 : ∀ x ∈ p1, x.block < W.heap.size := by obtain ⟨m, hm⟩ := k1; exact DataW.trod_lt m _ _ _ hm
  obtain ⟨va1, vb1, ya1, yb1, n1, rfl, hd1, hp1, ta1, tb1⟩ := open_agg2 Tryz.underlying24 (by kernel_rfl) (by kernel_rfl) (hval 1 24 _ rfl rfl) h1
  obtain ⟨c1, ec1, _, wc1⟩ := DataW.trod_int Tryz.underlying3 ta1
  injection ec1 with ec1
  subst ec1
  obtain ⟨A1, n1, m1, xs1, rfl, R1, lm1, w1⟩ := EV.open_row (e := EV.itemE) (es := 3) (Wf := EV.ItemWf) Tryz.underlying22 (by kernel_rfl) (fun _ => rfl) EV.open_item (fun ad len cap e => by subst e; exact EV.cellOk_slice Tryz.underlying22 (EV.valOk_cell Tryz.underlying24 (ts := [3, 22]) (by kernel_rfl) (hval 1 24 _ rfl rfl) (i := 1) rfl rfl)) tb1
  obtain ⟨N1, H1, u1, G1, X1, V1, S1, L1⟩ := EV.add_row (e := EV.itemE) G0 (fun _ => rfl) (by decide) (EV.itemE_flat xs1) R1
  obtain ⟨c2, rfl, rfl, rfl, w2⟩ := open_int Tryz.underlying3 (hval 2 3 v2 rfl rfl) h2
  obtain ⟨c3, rfl, rfl, rfl, w3⟩ := open_int Tryz.underlying3 (hval 3 3 v3 rfl rfl) h3
  refine (EV.EF_calls (args := [.int .i64 c0, EV.formV c1 u1, .int .i64 c2, .int .i64 c3]) (fun fn hf e => by have := List.all_eq_true.1 names fn hf; rw [e] at this; simp at this) (by kernel_rfl) EV.O0_sound G1 (EV.LR.cons ((EV.VR.int _ _).mono _) (EV.LR.cons (EV.VR_agg (EV.LR.cons (.int _ _) (EV.LR.cons V1 (EV.LR.nil _)))) (EV.LR.cons (EV.VR.int _ _) (EV.LR.cons (EV.VR.int _ _) (EV.LR.nil _))))) (EV.law_StageStale H1 c0 w0 c1 wc1 u1 (xs1.take n1) S1 (fun z hz => w1 z (List.mem_of_mem_take hz)) c2 w2 c3 w3)).mono fun e W' ⟨he, bel⟩ => ?_
  subst he
  exact ⟨_, rfl, _, _, _, [], _, [], hW', trodAll_mk1 (shut_bool Tryz.underlying4 _), (trodAll_cons_mk (shut_int Tryz.underlying3 w0) (trodAll_cons_mk (Below.trod laidOut (by kernel_rfl) (of_decide_eq_true (by kernel_rfl)) k1 bel lt1) (trodAll_cons_mk (shut_int Tryz.underlying3 w2) (trodAll_cons_mk (shut_int Tryz.underlying3 w3) trodAll_mk0)))), rfl, bel.frame _, fun h => by cases h⟩
theorem over : Rows.stageStaleRow.holds Tryz.pinned (OpenSpec.ofChange Rows.stageStaleSpec) :=
  OpenClaim.holds_of_wide 4 Tryz.f4 rfl rfl rfl rfl rfl rfl rfl ⟨rfl, rfl, rfl, rfl, rfl⟩ rfl rfl rfl rfl rfl (by kernel_rfl) Tryz.func4 (by kernel_rfl)
    (of_decide_eq_true (by kernel_rfl)) (by unfold Func.isWrapper; first | (rw [if_pos (by decide +kernel)]; kernel_rfl) | (rw [if_neg (by decide +kernel)]; exact ⟨rfl, rfl⟩))
    (fun os started H enc _ => lifted os started H enc)
theorem proved : Rows.StageStaleSaid := over
#print axioms proved
end Go.Proofs.YtddgcakiceodgaaGreat.stageStale
namespace Go.Proofs.YtddgcakiceodgaaGreat
/-- The row, under a short name, for the claim. -/
theorem stageStale_holds : Rows.StageStaleSaid := stageStale.proved
end Go.Proofs.YtddgcakiceodgaaGreat
