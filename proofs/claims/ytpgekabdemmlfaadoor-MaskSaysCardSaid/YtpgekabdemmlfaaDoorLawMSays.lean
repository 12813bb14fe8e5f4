/- MaskSays, plainly. No condition. -/
import Derived.Test.YtpgekabdemmlfaaDoorMask5
namespace Go.Proofs.YtpgekabdemmlfaaDoor.EV
open Go Go.Proofs
set_option linter.unusedVariables false
set_option linter.unusedSimpArgs false
set_option maxRecDepth 100000
set_option pp.deepTerms false
set_option pp.deepTerms.threshold 20
theorem turn_cut : ∀ f, f < 16 → ((List.range 16).map fun i => (f + i) % 16) = (List.range 16).filter (fun x => decide (f ≤ x)) ++ (List.range 16).filter (fun x => decide (x < f)) := by decide +kernel
noncomputable def geI (f : Nat) (x : Int) : Bool := decide (x ≥ (f : Int))
noncomputable def ltI (f : Nat) (x : Int) : Bool := decide (x < (f : Int))
theorem arI_cut (M : Nat) {f : Nat} (hf : f < 16) : arI M f 16 = (coresI M 16).filter (geI f) ++ (coresI M 16).filter (ltI f) := by
  unfold arI coresI arN cores
  rw [turn_cut f hf, List.filter_append, List.map_append, List.filter_map, List.filter_map, List.filter_filter, List.filter_filter, List.filter_filter, List.filter_filter]
  congr 2
  · apply List.filter_congr
    intro x _
    rw [Bool.and_comm]
    congr 1
    show _ = decide ((x : Int) ≥ (f : Int))
    rw [decide_eq_decide]; omega
  · apply List.filter_congr
    intro x _
    rw [Bool.and_comm]
    congr 1
    show _ = decide ((x : Int) < (f : Int))
    rw [decide_eq_decide]; omega
theorem take_fil (p : Int → Bool) {l : List Int} {i : Nat} {x : Int} (h : l[i]? = some x) : (l.take (i + 1)).filter p = (l.take i).filter p ++ (if p x = true then [x] else []) := by
  rw [List.take_add_one, h, List.filter_append]
  congr 1
  show [x].filter p = _
  by_cases q : p x = true
  · rw [if_pos q, List.filter_cons_of_pos q]; rfl
  · rw [if_neg q, List.filter_cons_of_neg q]; rfl
theorem and15 {n : Nat} (h : n < 16) (P : Program) (t : TypeId) (x y : Operand) : evBin P .and t x y (.int .i64 (n : Int)) (.int .i64 15) = some (.int .i64 (n : Int)) := by
  refine bin_int _ _ _ _ _ _ _ _ _ ?_ rfl
  show some (Value.int .i64 (wrapF .i64 (Int.ofNat (Nat.land (natK .i64 (n : Int)) (natK .i64 ((15 : Nat) : Int)))))) = _
  rw [natK_nat (show n < szK .i64 by show n < 18446744073709551616; omega), natK_nat (by decide)]
  have : Nat.land n 15 = n := by
    show n &&& 15 = n
    rw [show (15 : Nat) = 2 ^ 4 - 1 from rfl, Nat.and_two_pow_sub_one_eq_mod, Nat.mod_eq_of_lt (by omega)]
  rw [this]
  show some (Value.int .i64 (wrapF .i64 (n : Int))) = _
  rw [wrap64 (by omega)]
theorem wf_u16' {n : Int} (h : (Lit.int .u16 n).wf = true) : 0 ≤ n ∧ n < 65536 := by
  have : 0 ≤ n ∧ n ≤ 65535 := by simpa [Lit.wf, IntKind.min, IntKind.max, IntKind.signed, IntKind.bits] using h
  omega
theorem wf_i64' {n : Int} (h : (Lit.int .i64 n).wf = true) : -9223372036854775808 ≤ n ∧ n ≤ 9223372036854775807 := by
  simpa [Lit.wf, IntKind.min, IntKind.max, IntKind.signed, IntKind.bits] using h
set_option maxHeartbeats 8000000 in
theorem law_MaskSays (h : Heap) (m : Int) (wm : (Lit.int .u16 m).wf = true) (s : Value) (l : List Int) (hl : SL (intE .i64) 1 h s l) (wl : ∀ z ∈ l, (Lit.int .i64 z).wf = true) (c : Int) (wc : (Lit.int .i64 c).wf = true) (k : Int) (wk : (Lit.int .i64 k).wf = true) :
    WPo (EF Tryd.prog O0 6 [.int .u16 m, s, .int .i64 c, .int .i64 k] h) fun q => q.1 = .bool true := by
  rw [EF_body (O := O0) (by kernel_rfl) Tryd.func6 rfl (rs := [.tmp 8]) rfl (bad := []) (by kernel_rfl) _ _ (m := 130) rfl]
  obtain ⟨a0, a1⟩ := wf_u16' wm
  obtain ⟨M, rfl⟩ := Int.eq_ofNat_of_zero_le a0
  have hM : M < 65536 := by omega
  have hc := wf_i64' wc
  obtain ⟨f, hfd⟩ : ∃ f, f = clampN c := ⟨_, rfl⟩
  have hf : f < 16 := by rw [hfd]; exact clampN_lt c
  obtain ⟨la, lc, rfl⟩ := hl.val
  have h3 : (decide (c < 0) = true ∧ decide ((0 : Int) > 15) = false ∧ (f : Int) = 0 ∧ decide (c ≥ 0) = false ∧ decide (c < 16) = true ∧ hasI M c = false) ∨ (decide (c < 0) = false ∧ decide (c > 15) = true ∧ (f : Int) = 15 ∧ decide (c ≥ 0) = true ∧ decide (c < 16) = false ∧ hasI M c = false) ∨ (decide (c < 0) = false ∧ decide (c > 15) = false ∧ (f : Int) = c ∧ decide (c ≥ 0) = true ∧ decide (c < 16) = true ∧ hasI M c = hasN M f) := by
    unfold clampN at hfd
    unfold hasI
    by_cases q0 : c < 0
    · rw [if_pos q0] at hfd
      exact .inl ⟨decide_eq_true q0, by decide, by omega, decide_eq_false (by omega), decide_eq_true (by omega), by rw [decide_eq_false (show ¬ (0 : Int) ≤ c by omega)]; rfl⟩
    · rw [if_neg q0] at hfd
      by_cases q1 : c > 15
      · rw [if_pos q1] at hfd
        exact .inr (.inl ⟨decide_eq_false q0, decide_eq_true q1, by omega, decide_eq_true (by omega), decide_eq_false (by omega), by rw [decide_eq_false (show ¬ c < 16 by omega), Bool.false_and, Bool.and_false]⟩)
      · rw [if_neg q1] at hfd
        exact .inr (.inr ⟨decide_eq_false q0, decide_eq_false q1, by omega, decide_eq_true (by omega), decide_eq_true (by omega), by rw [decide_eq_true (show (0 : Int) ≤ c by omega), decide_eq_true (show c < 16 by omega), hfd]; rfl⟩)
  simp (maxSteps := 1000000) (disch := first | decide | omega | (simp only [go_sem]; first | done | omega)) only [go_sem, Int.reduceToNat, Nat.reduceMul, Nat.reduceAdd, Nat.reduceSub, ↓EU_region, ↓EU_draw, awake_ev]
  ((repeat refine WPo_ob ?_); (first | refine WPo_cond (fun b0 => ?_) (fun b0 => ?_) | refine WPo_gard (fun b0 => ?_) (fun b0 => ?_) | refine WPo_gardT (fun b0 => ?_) (fun b0 => ?_)) <;> (try simp only [Bool.not_eq_true', Bool.not_eq_false'] at b0))
  · simp (maxSteps := 1000000) (disch := first | decide | omega | (simp only [go_sem]; first | done | omega)) only [go_sem, Int.reduceToNat, Nat.reduceMul, Nat.reduceAdd, Nat.reduceSub, ↓EU_region, ↓EU_draw]
  simp only [decide_eq_false_iff_not] at b0
  simp (maxSteps := 1000000) (disch := first | decide | omega | (simp only [go_sem]; first | done | omega)) only [go_sem, Int.reduceToNat, Nat.reduceMul, Nat.reduceAdd, Nat.reduceSub, ↓EU_region, ↓EU_draw]
  repeat refine WPo_ob ?_
  refine (rcores_ev M hM h).mono ?_
  rintro ⟨v1, h1⟩ ⟨o1, f1, x1⟩
  simp only at o1 f1 x1
  have hW16 := coresI_len M 16
  have hcut := arI_cut M hf
  have hWl : (coresI M 16).length = (cores M 16).length := by unfold coresI; rw [List.length_map]
  have e3 := fun h => len_ev M hM h
  rw [← hWl] at e3
  obtain ⟨W, hW⟩ : ∃ W, W = coresI M 16 := ⟨_, rfl⟩
  rw [← hW] at o1 hW16 hcut e3
  have hs := o1.sl
  obtain ⟨wa, wcap, rfl⟩ := o1.val
  have dt : ∀ x : Int, decide (x = x) = true := fun x => decide_eq_true rfl
  have hbb : ∀ b : Bool, (b == b) = true := fun b => by cases b <;> rfl
  have eq1 := of_ev l _ h1 (hl.ext x1) (by omega)
  have eq2 := rmask_ev l _ h1 (hl.ext x1) (by omega)
  rcases h3 with ⟨d0, d1, hfe, c0, c1, hha⟩ | ⟨d0, d1, hfe, c0, c1, hha⟩ | ⟨d0, d1, hfe, c0, c1, hha⟩
  all_goals
    simp (maxSteps := 1000000) (disch := first | decide | omega | (simp only [go_sem]; first | done | omega)) only [go_sem, Int.reduceToNat, Nat.reduceMul, Nat.reduceAdd, Nat.reduceSub, ↓EU_region, ↓EU_draw, d0, d1]
    repeat refine WPo_ob ?_
    refine (LP_rule (fun m st => ∃ (i : Nat) (tm : Fr) (h' : Heap) (v : Value), st = ⟨tm, h', []⟩ ∧ m = W.length - i ∧ i ≤ W.length ∧ Fr.get tm 0 = .int .u16 (M : Int) ∧ Fr.get tm 1 = .slice la l.length lc ∧ Fr.get tm 2 = .int .i64 c ∧ Fr.get tm 3 = .int .i64 k ∧ Fr.get tm 9 = .int .u16 (M : Int) ∧ Fr.get tm 10 = .slice wa W.length wcap ∧ Fr.get tm 11 = .int .i64 (f : Int) ∧ Fr.get tm 12 = v ∧ Fr.get tm 13 = .int .i64 (i : Int) ∧ OW (intE .i64) 1 h' v ((W.take i).filter (geI f)) ∧ Fresh h1.next v ∧ Ext h1 h')
      (fun q => ∃ tm h' v, q.2 = ⟨tm, h', []⟩ ∧ q.1 = .exit 0 ∧ Fr.get tm 0 = .int .u16 (M : Int) ∧ Fr.get tm 1 = .slice la l.length lc ∧ Fr.get tm 2 = .int .i64 c ∧ Fr.get tm 3 = .int .i64 k ∧ Fr.get tm 9 = .int .u16 (M : Int) ∧ Fr.get tm 10 = .slice wa W.length wcap ∧ Fr.get tm 11 = .int .i64 (f : Int) ∧ Fr.get tm 12 = v ∧ OW (intE .i64) 1 h' v (W.filter (geI f)) ∧ Fresh h1.next v ∧ Ext h1 h') ?_ W.length _ _ ?_ ?_).mono ?_
    · rintro m _ ⟨i, tm, h', v, rfl, rfl, hi, g0, g1, g2, g3, g9, g10, g11, g12, g13, ov, fv, xx⟩
      simp (maxSteps := 1000000) (disch := first | decide | omega | (simp only [go_sem]; first | done | omega)) only [go_sem, Int.reduceToNat, Nat.reduceMul, Nat.reduceAdd, Nat.reduceSub, ↓EU_region, ↓EU_draw, g10, g13]
      ((repeat refine WPo_ob ?_); (first | refine WPo_cond (fun b1 => ?_) (fun b1 => ?_) | refine WPo_gard (fun b1 => ?_) (fun b1 => ?_) | refine WPo_gardT (fun b1 => ?_) (fun b1 => ?_)) <;> (try simp only [Bool.not_eq_true', Bool.not_eq_false'] at b1))
      · have b1' := b1
        simp only [decide_eq_true_eq] at b1'
        have hi' : i < W.length := by omega
        obtain ⟨x, hx⟩ : ∃ x, W[i]? = some x := ⟨_, List.getElem?_eq_getElem hi'⟩
        obtain ⟨b, o, c', e, hb', hrd, hr⟩ := (hs.ext xx).at hx rfl
        cases e
        have hr0 := hr 0 _ rfl
        rw [add_z] at hr0
        have hwi : wrapF .i64 ((i : Int) + 1) = ((i + 1 : Nat) : Int) := by rw [wrap64 (by omega)]; rfl
        have hfl := take_fil (geI f) hx
        have hll : ((W.take i).filter (geI f)).length ≤ 16 := Nat.le_trans (List.length_filter_le _ _) (by rw [List.length_take]; omega)
        by_cases q : x ≥ (f : Int)
        · have dd : decide (x ≥ (f : Int)) = true := decide_eq_true q
          rw [if_pos (show geI f x = true from dd)] at hfl
          obtain ⟨va, vc, rfl⟩ := ov.val
          simp (maxSteps := 1000000) (disch := first | decide | omega | (simp only [go_sem]; first | done | omega)) only [go_sem, Int.reduceToNat, Nat.reduceMul, Nat.reduceAdd, Nat.reduceSub, ↓EU_region, ↓EU_draw, g10, g11, g12, g13, hr0, dd]
          repeat refine WPo_ob ?_
          refine append_gr (e := intE .i64) (l := (W.take i).filter (geI f)) (l' := [x]) fc_ap_27_27 i64_len (by decide) i64_scal (ov.ext ((Ext.refl h').push _)) (OW.lit i64_len h' [x]).sl (by simp only [List.length_cons, List.length_nil]; omega) (by simp only [List.length_cons, List.length_nil]; omega) fun v3 h3 o3 gr => ?_
          rw [← hfl] at o3
          have hle := xx.le
          have f3 : Fresh h1.next v3 := fun j hj => by
            rcases gr.src j hj with q | q
            · exact fv j q
            · rw [next_push] at q; omega
          have x3 : Ext h1 h3 := gr.ext0 (xx.push _) fv
          simp (maxSteps := 1000000) (disch := first | decide | omega | (simp only [go_sem]; first | done | omega)) only [go_sem, Int.reduceToNat, Nat.reduceMul, Nat.reduceAdd, Nat.reduceSub, ↓EU_region, ↓EU_draw, g13, hwi]
          exact ⟨_, by omega, i + 1, _, h3, v3, rfl, rfl, by omega, by simp (maxSteps := 1000000) (disch := first | decide | omega | (simp only [go_sem]; first | done | omega)) only [go_sem, Int.reduceToNat, Nat.reduceMul, Nat.reduceAdd, Nat.reduceSub, ↓EU_region, ↓EU_draw, g0], by simp (maxSteps := 1000000) (disch := first | decide | omega | (simp only [go_sem]; first | done | omega)) only [go_sem, Int.reduceToNat, Nat.reduceMul, Nat.reduceAdd, Nat.reduceSub, ↓EU_region, ↓EU_draw, g1], by simp (maxSteps := 1000000) (disch := first | decide | omega | (simp only [go_sem]; first | done | omega)) only [go_sem, Int.reduceToNat, Nat.reduceMul, Nat.reduceAdd, Nat.reduceSub, ↓EU_region, ↓EU_draw, g2], by simp (maxSteps := 1000000) (disch := first | decide | omega | (simp only [go_sem]; first | done | omega)) only [go_sem, Int.reduceToNat, Nat.reduceMul, Nat.reduceAdd, Nat.reduceSub, ↓EU_region, ↓EU_draw, g3], by simp (maxSteps := 1000000) (disch := first | decide | omega | (simp only [go_sem]; first | done | omega)) only [go_sem, Int.reduceToNat, Nat.reduceMul, Nat.reduceAdd, Nat.reduceSub, ↓EU_region, ↓EU_draw, g9], by simp (maxSteps := 1000000) (disch := first | decide | omega | (simp only [go_sem]; first | done | omega)) only [go_sem, Int.reduceToNat, Nat.reduceMul, Nat.reduceAdd, Nat.reduceSub, ↓EU_region, ↓EU_draw, g10], by simp (maxSteps := 1000000) (disch := first | decide | omega | (simp only [go_sem]; first | done | omega)) only [go_sem, Int.reduceToNat, Nat.reduceMul, Nat.reduceAdd, Nat.reduceSub, ↓EU_region, ↓EU_draw, g11], by simp (maxSteps := 1000000) (disch := first | decide | omega | (simp only [go_sem]; first | done | omega)) only [go_sem, Int.reduceToNat, Nat.reduceMul, Nat.reduceAdd, Nat.reduceSub, ↓EU_region, ↓EU_draw], by simp (maxSteps := 1000000) (disch := first | decide | omega | (simp only [go_sem]; first | done | omega)) only [go_sem, Int.reduceToNat, Nat.reduceMul, Nat.reduceAdd, Nat.reduceSub, ↓EU_region, ↓EU_draw], o3, f3, x3⟩
        · have dd : decide (x ≥ (f : Int)) = false := decide_eq_false q
          rw [if_neg (by show ¬ geI f x = true; unfold geI; rw [dd]; decide), List.append_nil] at hfl
          rw [← hfl] at ov
          simp (maxSteps := 1000000) (disch := first | decide | omega | (simp only [go_sem]; first | done | omega)) only [go_sem, Int.reduceToNat, Nat.reduceMul, Nat.reduceAdd, Nat.reduceSub, ↓EU_region, ↓EU_draw, g10, g11, g12, g13, hr0, dd, hwi]
          exact ⟨_, by omega, i + 1, _, h', v, rfl, rfl, by omega, by simp (maxSteps := 1000000) (disch := first | decide | omega | (simp only [go_sem]; first | done | omega)) only [go_sem, Int.reduceToNat, Nat.reduceMul, Nat.reduceAdd, Nat.reduceSub, ↓EU_region, ↓EU_draw, g0], by simp (maxSteps := 1000000) (disch := first | decide | omega | (simp only [go_sem]; first | done | omega)) only [go_sem, Int.reduceToNat, Nat.reduceMul, Nat.reduceAdd, Nat.reduceSub, ↓EU_region, ↓EU_draw, g1], by simp (maxSteps := 1000000) (disch := first | decide | omega | (simp only [go_sem]; first | done | omega)) only [go_sem, Int.reduceToNat, Nat.reduceMul, Nat.reduceAdd, Nat.reduceSub, ↓EU_region, ↓EU_draw, g2], by simp (maxSteps := 1000000) (disch := first | decide | omega | (simp only [go_sem]; first | done | omega)) only [go_sem, Int.reduceToNat, Nat.reduceMul, Nat.reduceAdd, Nat.reduceSub, ↓EU_region, ↓EU_draw, g3], by simp (maxSteps := 1000000) (disch := first | decide | omega | (simp only [go_sem]; first | done | omega)) only [go_sem, Int.reduceToNat, Nat.reduceMul, Nat.reduceAdd, Nat.reduceSub, ↓EU_region, ↓EU_draw, g9], by simp (maxSteps := 1000000) (disch := first | decide | omega | (simp only [go_sem]; first | done | omega)) only [go_sem, Int.reduceToNat, Nat.reduceMul, Nat.reduceAdd, Nat.reduceSub, ↓EU_region, ↓EU_draw, g10], by simp (maxSteps := 1000000) (disch := first | decide | omega | (simp only [go_sem]; first | done | omega)) only [go_sem, Int.reduceToNat, Nat.reduceMul, Nat.reduceAdd, Nat.reduceSub, ↓EU_region, ↓EU_draw, g11], by simp (maxSteps := 1000000) (disch := first | decide | omega | (simp only [go_sem]; first | done | omega)) only [go_sem, Int.reduceToNat, Nat.reduceMul, Nat.reduceAdd, Nat.reduceSub, ↓EU_region, ↓EU_draw, g12], by simp (maxSteps := 1000000) (disch := first | decide | omega | (simp only [go_sem]; first | done | omega)) only [go_sem, Int.reduceToNat, Nat.reduceMul, Nat.reduceAdd, Nat.reduceSub, ↓EU_region, ↓EU_draw], ov, fv, xx⟩
      · simp only [decide_eq_false_iff_not] at b1
        have : i = W.length := by omega
        subst this
        rw [List.take_length] at ov
        simp (maxSteps := 1000000) (disch := first | decide | omega | (simp only [go_sem]; first | done | omega)) only [go_sem, Int.reduceToNat, Nat.reduceMul, Nat.reduceAdd, Nat.reduceSub, ↓EU_region, ↓EU_draw]
        exact ⟨_, h', v, rfl, trivial, by simp (maxSteps := 1000000) (disch := first | decide | omega | (simp only [go_sem]; first | done | omega)) only [go_sem, Int.reduceToNat, Nat.reduceMul, Nat.reduceAdd, Nat.reduceSub, ↓EU_region, ↓EU_draw, g0], by simp (maxSteps := 1000000) (disch := first | decide | omega | (simp only [go_sem]; first | done | omega)) only [go_sem, Int.reduceToNat, Nat.reduceMul, Nat.reduceAdd, Nat.reduceSub, ↓EU_region, ↓EU_draw, g1], by simp (maxSteps := 1000000) (disch := first | decide | omega | (simp only [go_sem]; first | done | omega)) only [go_sem, Int.reduceToNat, Nat.reduceMul, Nat.reduceAdd, Nat.reduceSub, ↓EU_region, ↓EU_draw, g2], by simp (maxSteps := 1000000) (disch := first | decide | omega | (simp only [go_sem]; first | done | omega)) only [go_sem, Int.reduceToNat, Nat.reduceMul, Nat.reduceAdd, Nat.reduceSub, ↓EU_region, ↓EU_draw, g3], by simp (maxSteps := 1000000) (disch := first | decide | omega | (simp only [go_sem]; first | done | omega)) only [go_sem, Int.reduceToNat, Nat.reduceMul, Nat.reduceAdd, Nat.reduceSub, ↓EU_region, ↓EU_draw, g9], by simp (maxSteps := 1000000) (disch := first | decide | omega | (simp only [go_sem]; first | done | omega)) only [go_sem, Int.reduceToNat, Nat.reduceMul, Nat.reduceAdd, Nat.reduceSub, ↓EU_region, ↓EU_draw, g10], by simp (maxSteps := 1000000) (disch := first | decide | omega | (simp only [go_sem]; first | done | omega)) only [go_sem, Int.reduceToNat, Nat.reduceMul, Nat.reduceAdd, Nat.reduceSub, ↓EU_region, ↓EU_draw, g11], by simp (maxSteps := 1000000) (disch := first | decide | omega | (simp only [go_sem]; first | done | omega)) only [go_sem, Int.reduceToNat, Nat.reduceMul, Nat.reduceAdd, Nat.reduceSub, ↓EU_region, ↓EU_draw, g12], ov, fv, xx⟩
    · exact ⟨0, _, h1, _, rfl, rfl, by omega, by simp (maxSteps := 1000000) (disch := first | decide | omega | (simp only [go_sem]; first | done | omega)) only [go_sem, Int.reduceToNat, Nat.reduceMul, Nat.reduceAdd, Nat.reduceSub, ↓EU_region, ↓EU_draw], by simp (maxSteps := 1000000) (disch := first | decide | omega | (simp only [go_sem]; first | done | omega)) only [go_sem, Int.reduceToNat, Nat.reduceMul, Nat.reduceAdd, Nat.reduceSub, ↓EU_region, ↓EU_draw], by simp (maxSteps := 1000000) (disch := first | decide | omega | (simp only [go_sem]; first | done | omega)) only [go_sem, Int.reduceToNat, Nat.reduceMul, Nat.reduceAdd, Nat.reduceSub, ↓EU_region, ↓EU_draw], by simp (maxSteps := 1000000) (disch := first | decide | omega | (simp only [go_sem]; first | done | omega)) only [go_sem, Int.reduceToNat, Nat.reduceMul, Nat.reduceAdd, Nat.reduceSub, ↓EU_region, ↓EU_draw], by simp (maxSteps := 1000000) (disch := first | decide | omega | (simp only [go_sem]; first | done | omega)) only [go_sem, Int.reduceToNat, Nat.reduceMul, Nat.reduceAdd, Nat.reduceSub, ↓EU_region, ↓EU_draw], by simp (maxSteps := 1000000) (disch := first | decide | omega | (simp only [go_sem]; first | done | omega)) only [go_sem, Int.reduceToNat, Nat.reduceMul, Nat.reduceAdd, Nat.reduceSub, ↓EU_region, ↓EU_draw], by rw [hfe]; simp (maxSteps := 1000000) (disch := first | decide | omega | (simp only [go_sem]; first | done | omega)) only [go_sem, Int.reduceToNat, Nat.reduceMul, Nat.reduceAdd, Nat.reduceSub, ↓EU_region, ↓EU_draw], rfl, by simp (maxSteps := 1000000) (disch := first | decide | omega | (simp only [go_sem]; first | done | omega)) only [go_sem, Int.reduceToNat, Nat.reduceMul, Nat.reduceAdd, Nat.reduceSub, ↓EU_region, ↓EU_draw]; rfl, by simp (maxSteps := 1000000) (disch := first | decide | omega | (simp only [go_sem]; first | done | omega)) only [go_sem, Int.reduceToNat, Nat.reduceMul, Nat.reduceAdd, Nat.reduceSub, ↓EU_region, ↓EU_draw]; exact OW.nil, by simp (maxSteps := 1000000) (disch := first | decide | omega | (simp only [go_sem]; first | done | omega)) only [go_sem, Int.reduceToNat, Nat.reduceMul, Nat.reduceAdd, Nat.reduceSub, ↓EU_region, ↓EU_draw]; exact Fresh.nil _ _ _, Ext.refl h1⟩
    · omega
    · rintro ⟨_, _⟩ ⟨tm, h2, v2, rfl, rfl, g0, g1, g2, g3, g9, g10, g11, g12, o2, f2, x2⟩
      have hG : (W.filter (geI f)).length ≤ 16 := Nat.le_trans (List.length_filter_le _ _) hW16
      simp (maxSteps := 1000000) (disch := first | decide | omega | (simp only [go_sem]; first | done | omega)) only [go_sem, Int.reduceToNat, Nat.reduceMul, Nat.reduceAdd, Nat.reduceSub, ↓EU_region, ↓EU_draw]
      repeat refine WPo_ob ?_
      refine (LP_rule (fun m st => ∃ (i : Nat) (tm : Fr) (h' : Heap) (v : Value), st = ⟨tm, h', []⟩ ∧ m = W.length - i ∧ i ≤ W.length ∧ Fr.get tm 0 = .int .u16 (M : Int) ∧ Fr.get tm 1 = .slice la l.length lc ∧ Fr.get tm 2 = .int .i64 c ∧ Fr.get tm 3 = .int .i64 k ∧ Fr.get tm 9 = .int .u16 (M : Int) ∧ Fr.get tm 10 = .slice wa W.length wcap ∧ Fr.get tm 11 = .int .i64 (f : Int) ∧ Fr.get tm 12 = v ∧ Fr.get tm 14 = .int .i64 (i : Int) ∧ OW (intE .i64) 1 h' v (W.filter (geI f) ++ (W.take i).filter (ltI f)) ∧ Fresh h1.next v ∧ Ext h1 h')
        (fun q => ∃ tm h' v, q.2 = ⟨tm, h', []⟩ ∧ q.1 = .exit 2 ∧ Fr.get tm 0 = .int .u16 (M : Int) ∧ Fr.get tm 1 = .slice la l.length lc ∧ Fr.get tm 2 = .int .i64 c ∧ Fr.get tm 3 = .int .i64 k ∧ Fr.get tm 9 = .int .u16 (M : Int) ∧ Fr.get tm 10 = .slice wa W.length wcap ∧ Fr.get tm 11 = .int .i64 (f : Int) ∧ Fr.get tm 12 = v ∧ OW (intE .i64) 1 h' v (W.filter (geI f) ++ W.filter (ltI f)) ∧ Fresh h1.next v ∧ Ext h1 h') ?_ W.length _ _ ?_ ?_).mono ?_
      · rintro m _ ⟨i, tm, h', v, rfl, rfl, hi, g0, g1, g2, g3, g9, g10, g11, g12, g13, ov, fv, xx⟩
        simp (maxSteps := 1000000) (disch := first | decide | omega | (simp only [go_sem]; first | done | omega)) only [go_sem, Int.reduceToNat, Nat.reduceMul, Nat.reduceAdd, Nat.reduceSub, ↓EU_region, ↓EU_draw, g10, g13]
        ((repeat refine WPo_ob ?_); (first | refine WPo_cond (fun b1 => ?_) (fun b1 => ?_) | refine WPo_gard (fun b1 => ?_) (fun b1 => ?_) | refine WPo_gardT (fun b1 => ?_) (fun b1 => ?_)) <;> (try simp only [Bool.not_eq_true', Bool.not_eq_false'] at b1))
        · have b1' := b1
          simp only [decide_eq_true_eq] at b1'
          have hi' : i < W.length := by omega
          obtain ⟨x, hx⟩ : ∃ x, W[i]? = some x := ⟨_, List.getElem?_eq_getElem hi'⟩
          obtain ⟨b, o, c', e, hb', hrd, hr⟩ := (hs.ext xx).at hx rfl
          cases e
          have hr0 := hr 0 _ rfl
          rw [add_z] at hr0
          have hwi : wrapF .i64 ((i : Int) + 1) = ((i + 1 : Nat) : Int) := by rw [wrap64 (by omega)]; rfl
          have hfl := take_fil (ltI f) hx
          have hll : ((W.take i).filter (ltI f)).length ≤ 16 := Nat.le_trans (List.length_filter_le _ _) (by rw [List.length_take]; omega)
          have hcl : (W.filter (geI f) ++ (W.take i).filter (ltI f)).length ≤ 32 := by rw [List.length_append]; omega
          by_cases q : x < (f : Int)
          · have dd : decide (x < (f : Int)) = true := decide_eq_true q
            rw [if_pos (show ltI f x = true from dd)] at hfl
            obtain ⟨X, hX⟩ : ∃ X, X = W.filter (geI f) ++ (W.take i).filter (ltI f) := ⟨_, rfl⟩
            have hX2 : W.filter (geI f) ++ (W.take (i + 1)).filter (ltI f) = X ++ [x] := by rw [hfl, hX, List.append_assoc]
            rw [← hX] at ov hcl
            obtain ⟨va, vc, rfl⟩ := ov.val
            simp (maxSteps := 1000000) (disch := first | decide | omega | (simp only [go_sem]; first | done | omega)) only [go_sem, Int.reduceToNat, Nat.reduceMul, Nat.reduceAdd, Nat.reduceSub, ↓EU_region, ↓EU_draw, g10, g11, g12, g13, hr0, dd]
            repeat refine WPo_ob ?_
            refine append_gr (e := intE .i64) (l := X) (l' := [x]) fc_ap_27_27 i64_len (by decide) i64_scal (ov.ext ((Ext.refl h').push _)) (OW.lit i64_len h' [x]).sl (by simp only [List.length_cons, List.length_nil]; omega) (by simp only [List.length_cons, List.length_nil]; omega) fun v3 h3 o3 gr => ?_
            rw [← hX2] at o3
            have hle := xx.le
            have f3 : Fresh h1.next v3 := fun j hj => by
              rcases gr.src j hj with q | q
              · exact fv j q
              · rw [next_push] at q; omega
            have x3 : Ext h1 h3 := gr.ext0 (xx.push _) fv
            simp (maxSteps := 1000000) (disch := first | decide | omega | (simp only [go_sem]; first | done | omega)) only [go_sem, Int.reduceToNat, Nat.reduceMul, Nat.reduceAdd, Nat.reduceSub, ↓EU_region, ↓EU_draw, g13, hwi]
            exact ⟨_, by omega, i + 1, _, h3, v3, rfl, rfl, by omega, by simp (maxSteps := 1000000) (disch := first | decide | omega | (simp only [go_sem]; first | done | omega)) only [go_sem, Int.reduceToNat, Nat.reduceMul, Nat.reduceAdd, Nat.reduceSub, ↓EU_region, ↓EU_draw, g0], by simp (maxSteps := 1000000) (disch := first | decide | omega | (simp only [go_sem]; first | done | omega)) only [go_sem, Int.reduceToNat, Nat.reduceMul, Nat.reduceAdd, Nat.reduceSub, ↓EU_region, ↓EU_draw, g1], by simp (maxSteps := 1000000) (disch := first | decide | omega | (simp only [go_sem]; first | done | omega)) only [go_sem, Int.reduceToNat, Nat.reduceMul, Nat.reduceAdd, Nat.reduceSub, ↓EU_region, ↓EU_draw, g2], by simp (maxSteps := 1000000) (disch := first | decide | omega | (simp only [go_sem]; first | done | omega)) only [go_sem, Int.reduceToNat, Nat.reduceMul, Nat.reduceAdd, Nat.reduceSub, ↓EU_region, ↓EU_draw, g3], by simp (maxSteps := 1000000) (disch := first | decide | omega | (simp only [go_sem]; first | done | omega)) only [go_sem, Int.reduceToNat, Nat.reduceMul, Nat.reduceAdd, Nat.reduceSub, ↓EU_region, ↓EU_draw, g9], by simp (maxSteps := 1000000) (disch := first | decide | omega | (simp only [go_sem]; first | done | omega)) only [go_sem, Int.reduceToNat, Nat.reduceMul, Nat.reduceAdd, Nat.reduceSub, ↓EU_region, ↓EU_draw, g10], by simp (maxSteps := 1000000) (disch := first | decide | omega | (simp only [go_sem]; first | done | omega)) only [go_sem, Int.reduceToNat, Nat.reduceMul, Nat.reduceAdd, Nat.reduceSub, ↓EU_region, ↓EU_draw, g11], by simp (maxSteps := 1000000) (disch := first | decide | omega | (simp only [go_sem]; first | done | omega)) only [go_sem, Int.reduceToNat, Nat.reduceMul, Nat.reduceAdd, Nat.reduceSub, ↓EU_region, ↓EU_draw], by simp (maxSteps := 1000000) (disch := first | decide | omega | (simp only [go_sem]; first | done | omega)) only [go_sem, Int.reduceToNat, Nat.reduceMul, Nat.reduceAdd, Nat.reduceSub, ↓EU_region, ↓EU_draw], o3, f3, x3⟩
          · have dd : decide (x < (f : Int)) = false := decide_eq_false q
            rw [if_neg (by show ¬ ltI f x = true; unfold ltI; rw [dd]; decide), List.append_nil] at hfl
            rw [← hfl] at ov
            simp (maxSteps := 1000000) (disch := first | decide | omega | (simp only [go_sem]; first | done | omega)) only [go_sem, Int.reduceToNat, Nat.reduceMul, Nat.reduceAdd, Nat.reduceSub, ↓EU_region, ↓EU_draw, g10, g11, g12, g13, hr0, dd, hwi]
            exact ⟨_, by omega, i + 1, _, h', v, rfl, rfl, by omega, by simp (maxSteps := 1000000) (disch := first | decide | omega | (simp only [go_sem]; first | done | omega)) only [go_sem, Int.reduceToNat, Nat.reduceMul, Nat.reduceAdd, Nat.reduceSub, ↓EU_region, ↓EU_draw, g0], by simp (maxSteps := 1000000) (disch := first | decide | omega | (simp only [go_sem]; first | done | omega)) only [go_sem, Int.reduceToNat, Nat.reduceMul, Nat.reduceAdd, Nat.reduceSub, ↓EU_region, ↓EU_draw, g1], by simp (maxSteps := 1000000) (disch := first | decide | omega | (simp only [go_sem]; first | done | omega)) only [go_sem, Int.reduceToNat, Nat.reduceMul, Nat.reduceAdd, Nat.reduceSub, ↓EU_region, ↓EU_draw, g2], by simp (maxSteps := 1000000) (disch := first | decide | omega | (simp only [go_sem]; first | done | omega)) only [go_sem, Int.reduceToNat, Nat.reduceMul, Nat.reduceAdd, Nat.reduceSub, ↓EU_region, ↓EU_draw, g3], by simp (maxSteps := 1000000) (disch := first | decide | omega | (simp only [go_sem]; first | done | omega)) only [go_sem, Int.reduceToNat, Nat.reduceMul, Nat.reduceAdd, Nat.reduceSub, ↓EU_region, ↓EU_draw, g9], by simp (maxSteps := 1000000) (disch := first | decide | omega | (simp only [go_sem]; first | done | omega)) only [go_sem, Int.reduceToNat, Nat.reduceMul, Nat.reduceAdd, Nat.reduceSub, ↓EU_region, ↓EU_draw, g10], by simp (maxSteps := 1000000) (disch := first | decide | omega | (simp only [go_sem]; first | done | omega)) only [go_sem, Int.reduceToNat, Nat.reduceMul, Nat.reduceAdd, Nat.reduceSub, ↓EU_region, ↓EU_draw, g11], by simp (maxSteps := 1000000) (disch := first | decide | omega | (simp only [go_sem]; first | done | omega)) only [go_sem, Int.reduceToNat, Nat.reduceMul, Nat.reduceAdd, Nat.reduceSub, ↓EU_region, ↓EU_draw, g12], by simp (maxSteps := 1000000) (disch := first | decide | omega | (simp only [go_sem]; first | done | omega)) only [go_sem, Int.reduceToNat, Nat.reduceMul, Nat.reduceAdd, Nat.reduceSub, ↓EU_region, ↓EU_draw], ov, fv, xx⟩
        · simp only [decide_eq_false_iff_not] at b1
          have : i = W.length := by omega
          subst this
          rw [List.take_length] at ov
          simp (maxSteps := 1000000) (disch := first | decide | omega | (simp only [go_sem]; first | done | omega)) only [go_sem, Int.reduceToNat, Nat.reduceMul, Nat.reduceAdd, Nat.reduceSub, ↓EU_region, ↓EU_draw]
          exact ⟨_, h', v, rfl, trivial, by simp (maxSteps := 1000000) (disch := first | decide | omega | (simp only [go_sem]; first | done | omega)) only [go_sem, Int.reduceToNat, Nat.reduceMul, Nat.reduceAdd, Nat.reduceSub, ↓EU_region, ↓EU_draw, g0], by simp (maxSteps := 1000000) (disch := first | decide | omega | (simp only [go_sem]; first | done | omega)) only [go_sem, Int.reduceToNat, Nat.reduceMul, Nat.reduceAdd, Nat.reduceSub, ↓EU_region, ↓EU_draw, g1], by simp (maxSteps := 1000000) (disch := first | decide | omega | (simp only [go_sem]; first | done | omega)) only [go_sem, Int.reduceToNat, Nat.reduceMul, Nat.reduceAdd, Nat.reduceSub, ↓EU_region, ↓EU_draw, g2], by simp (maxSteps := 1000000) (disch := first | decide | omega | (simp only [go_sem]; first | done | omega)) only [go_sem, Int.reduceToNat, Nat.reduceMul, Nat.reduceAdd, Nat.reduceSub, ↓EU_region, ↓EU_draw, g3], by simp (maxSteps := 1000000) (disch := first | decide | omega | (simp only [go_sem]; first | done | omega)) only [go_sem, Int.reduceToNat, Nat.reduceMul, Nat.reduceAdd, Nat.reduceSub, ↓EU_region, ↓EU_draw, g9], by simp (maxSteps := 1000000) (disch := first | decide | omega | (simp only [go_sem]; first | done | omega)) only [go_sem, Int.reduceToNat, Nat.reduceMul, Nat.reduceAdd, Nat.reduceSub, ↓EU_region, ↓EU_draw, g10], by simp (maxSteps := 1000000) (disch := first | decide | omega | (simp only [go_sem]; first | done | omega)) only [go_sem, Int.reduceToNat, Nat.reduceMul, Nat.reduceAdd, Nat.reduceSub, ↓EU_region, ↓EU_draw, g11], by simp (maxSteps := 1000000) (disch := first | decide | omega | (simp only [go_sem]; first | done | omega)) only [go_sem, Int.reduceToNat, Nat.reduceMul, Nat.reduceAdd, Nat.reduceSub, ↓EU_region, ↓EU_draw, g12], ov, fv, xx⟩
      · exact ⟨0, _, h2, v2, rfl, rfl, by omega, by simp (maxSteps := 1000000) (disch := first | decide | omega | (simp only [go_sem]; first | done | omega)) only [go_sem, Int.reduceToNat, Nat.reduceMul, Nat.reduceAdd, Nat.reduceSub, ↓EU_region, ↓EU_draw, g0], by simp (maxSteps := 1000000) (disch := first | decide | omega | (simp only [go_sem]; first | done | omega)) only [go_sem, Int.reduceToNat, Nat.reduceMul, Nat.reduceAdd, Nat.reduceSub, ↓EU_region, ↓EU_draw, g1], by simp (maxSteps := 1000000) (disch := first | decide | omega | (simp only [go_sem]; first | done | omega)) only [go_sem, Int.reduceToNat, Nat.reduceMul, Nat.reduceAdd, Nat.reduceSub, ↓EU_region, ↓EU_draw, g2], by simp (maxSteps := 1000000) (disch := first | decide | omega | (simp only [go_sem]; first | done | omega)) only [go_sem, Int.reduceToNat, Nat.reduceMul, Nat.reduceAdd, Nat.reduceSub, ↓EU_region, ↓EU_draw, g3], by simp (maxSteps := 1000000) (disch := first | decide | omega | (simp only [go_sem]; first | done | omega)) only [go_sem, Int.reduceToNat, Nat.reduceMul, Nat.reduceAdd, Nat.reduceSub, ↓EU_region, ↓EU_draw, g9], by simp (maxSteps := 1000000) (disch := first | decide | omega | (simp only [go_sem]; first | done | omega)) only [go_sem, Int.reduceToNat, Nat.reduceMul, Nat.reduceAdd, Nat.reduceSub, ↓EU_region, ↓EU_draw, g10], by simp (maxSteps := 1000000) (disch := first | decide | omega | (simp only [go_sem]; first | done | omega)) only [go_sem, Int.reduceToNat, Nat.reduceMul, Nat.reduceAdd, Nat.reduceSub, ↓EU_region, ↓EU_draw, g11], by simp (maxSteps := 1000000) (disch := first | decide | omega | (simp only [go_sem]; first | done | omega)) only [go_sem, Int.reduceToNat, Nat.reduceMul, Nat.reduceAdd, Nat.reduceSub, ↓EU_region, ↓EU_draw, g12], by simp (maxSteps := 1000000) (disch := first | decide | omega | (simp only [go_sem]; first | done | omega)) only [go_sem, Int.reduceToNat, Nat.reduceMul, Nat.reduceAdd, Nat.reduceSub, ↓EU_region, ↓EU_draw]; rfl, by rw [List.take_zero, List.filter_nil, List.append_nil]; exact o2, f2, x2⟩
      · omega
      · rintro ⟨_, _⟩ ⟨tm, h3, v3, rfl, rfl, g0, g1, g2, g3, g9, g10, g11, g12, o3, f3, x3⟩
        rw [← hcut] at o3
        have hl3 := arI_len M f 16
        have hhs := fun h => has_ev M hM c h
        rw [hha] at hhs
        have e15 : ∀ (P : Program) (t : TypeId) (x y : Operand), (f : Int) = c → evBin P .and t x y (.int .i64 c) (.int .i64 15) = some (.int .i64 (f : Int)) := fun P t x y e => by
          rw [← e]; exact and15 hf P t x y
        first
          | have e16 := fun P t x y => e15 P t x y hfe
          | have e16 := and15 hf
        have hwu : wrapF .u64 (f : Int) = (f : Int) := u64_nat (by omega)
        have es : ∀ (P : Program) (t : TypeId) (x y : Operand), evBin P .shr t x y (.int .u16 (M : Int)) (.int .u64 (f : Int)) = some (.int .u16 ((M >>> f : Nat) : Int)) := fun P t x y => bin_shrN P t x y (by show f ≤ 16; omega)
        have ea : ∀ (P : Program) (t : TypeId) (x y : Operand), evBin P .and t x y (.int .u16 ((M >>> f : Nat) : Int)) (.int .u16 1) = some (.int .u16 (((M >>> f) &&& 1 : Nat) : Int)) := fun P t x y => bin_andN P t x y (m := 1) rfl (Nat.lt_of_le_of_lt (Nat.shiftRight_le M f) hM) (by decide)
        have hbt := has_bit M f
        have eq1' := of_ev l _ h3 (hl.ext (x1.trans x3)) (by omega)
        have eq2' := rmask_ev l _ h3 (hl.ext (x1.trans x3)) (by omega)
        obtain ⟨a3, k3, rfl⟩ := o3.val
        simp (maxSteps := 1000000) (disch := first | decide | omega | (simp only [go_sem]; first | done | omega)) only [go_sem, Int.reduceToNat, Nat.reduceMul, Nat.reduceAdd, Nat.reduceSub, ↓EU_region, ↓EU_draw, g0, g1, g2, g3, g9, g10, g11, g12, c0, c1, e16, hwu, es, ea, hbt, eq1', eq2', dt]
        repeat refine WPo_ob ?_
        refine (list_ev M hM h3).mono ?_
        rintro ⟨v4, h4⟩ ⟨o4, f4, x4⟩
        simp only at o4 x4
        rw [← hW] at o4
        have e4 := ints_ev W W v4 _ h4 o4.sl (hs.ext (x3.trans x4)) (by omega)
        rw [decide_eq_true rfl] at e4
        obtain ⟨b4, c4, rfl⟩ := o4.val
        simp (maxSteps := 1000000) (disch := first | decide | omega | (simp only [go_sem]; first | done | omega)) only [go_sem, Int.reduceToNat, Nat.reduceMul, Nat.reduceAdd, Nat.reduceSub, ↓EU_region, ↓EU_draw, e4, g0, g1, g2, g3, g9, g10, g11, g12]
        repeat refine WPo_ob ?_
        refine (around_ev M hM c hc h4).mono ?_
        rintro ⟨v5, h5⟩ ⟨o5, f5, x5⟩
        simp only at o5 x5
        rw [← hfd] at o5
        have e5 := ints_ev _ _ v5 _ h5 o5.sl (o3.ext (x4.trans x5)).sl (by omega)
        rw [decide_eq_true rfl] at e5
        obtain ⟨b5, c5, rfl⟩ := o5.val
        simp (maxSteps := 1000000) (disch := first | decide | omega | (simp only [go_sem]; first | done | omega)) only [go_sem, Int.reduceToNat, Nat.reduceMul, Nat.reduceAdd, Nat.reduceSub, ↓EU_region, ↓EU_draw, e5, e3, dt, g0, g1, g2, g3, g9, g10, g11, g12]
        repeat refine WPo_ob ?_
        refine (mtext_ev M hM h5).bind fun h6 x6 => ?_
        simp (maxSteps := 1000000) (disch := first | decide | omega | (simp only [go_sem]; first | done | omega)) only [go_sem, Int.reduceToNat, Nat.reduceMul, Nat.reduceAdd, Nat.reduceSub, ↓EU_region, ↓EU_draw, g0, g1, g2, g3, g9, g10, g11, g12]
        repeat refine WPo_ob ?_
        refine (rtext_ev M hM h6).mono ?_
        rintro ⟨v7, h7⟩ ⟨e7, x7⟩
        simp only at e7 x7
        subst e7
        have e8 := good_ev M hM k h7
        have dts : ∀ x : List UInt8, decide (x = x) = true := fun x => decide_eq_true rfl
        simp (maxSteps := 1000000) (disch := first | decide | omega | (simp only [go_sem]; first | done | omega)) only [go_sem, Int.reduceToNat, Nat.reduceMul, Nat.reduceAdd, Nat.reduceSub, ↓EU_region, ↓EU_draw, e8, dts, g0, g1, g2, g3, g9, g10, g11, g12]
        repeat refine WPo_ob ?_
        refine (rgood_ev M hM k h7).mono ?_
        rintro ⟨v9, h9⟩ ⟨e9, x9⟩
        simp only at e9 x9
        subst e9
        have e10 := hhs h9
        simp (maxSteps := 1000000) (disch := first | decide | omega | (simp only [go_sem]; first | done | omega)) only [go_sem, Int.reduceToNat, Nat.reduceMul, Nat.reduceAdd, Nat.reduceSub, ↓EU_region, ↓EU_draw, e10, hbb, g0, g1, g2, g3, g9, g10, g11, g12]
end Go.Proofs.YtpgekabdemmlfaaDoor.EV
