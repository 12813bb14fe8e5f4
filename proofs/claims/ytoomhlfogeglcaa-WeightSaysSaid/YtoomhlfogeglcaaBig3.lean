/- The reference's numbers of any size: Of, zero, Cmp, Add. No condition. -/
import Derived.Test.YtoomhlfogeglcaaBig2
namespace Go.Proofs.Ytoomhlfogeglcaa.EV
open Go Go.Proofs
set_option linter.unusedVariables false
set_option linter.unusedSimpArgs false
set_option maxRecDepth 100000
set_option pp.deepTerms false
set_option pp.deepTerms.threshold 20
noncomputable def bigV (n : Bool) (s : Value) : Value := .agg ⟨[.bool n, s]⟩
noncomputable def sv (n : Bool) (l : List Int) : Int := if n then -val l else val l
theorem absI_digit (c : Int) : absI (c.tmod 65536) = absI c % 65536 ∧ absI (c.tdiv 65536) = absI c / 65536 := by
  by_cases q : 0 ≤ c
  · rw [Int.tmod_eq_emod_of_nonneg q, Int.tdiv_eq_ediv_of_nonneg q]
    unfold absI
    rw [if_neg (by omega), if_neg (by omega), if_neg (by omega)]
    exact ⟨rfl, rfl⟩
  · obtain ⟨n, rfl⟩ : ∃ n, c = -n := ⟨-c, by omega⟩
    rw [Int.neg_tmod, Int.neg_tdiv, Int.tmod_eq_emod_of_nonneg (by omega), Int.tdiv_eq_ediv_of_nonneg (by omega)]
    unfold absI
    constructor
    · split <;> split <;> omega
    · split <;> split <;> omega
theorem absI_nonneg (c : Int) : 0 ≤ absI c := by unfold absI; split <;> omega
set_option maxHeartbeats 4000000 in
theorem digits_ev (a : Int) (h : Heap) (hra : -9223372036854775808 ≤ a ∧ a < 9223372036854775808) :
    WPo (EF Try.prog O0 47 [.int .i64 a] h) fun q => ∃ l v, q.1 = .tuple ⟨[v, .bool (decide (a < 0))]⟩ ∧ SL (intE .i64) 1 q.2 v l ∧ Fresh h.next v ∧ dig l ∧ l.length = 6 ∧ val l = absI a ∧ Ext h q.2 := by
  rw [EF_body (O := O0) (by kernel_rfl) Try.func47 rfl (rs := [.tmp 2, .tmp 3]) rfl (bad := []) (by kernel_rfl) _ _ (m := 28) rfl]
  simp (maxSteps := 1000000) (disch := first | decide | omega | (simp only [go_sem]; first | done | omega)) only [go_sem, Int.reduceToNat, Nat.reduceMul, Nat.reduceAdd, Nat.reduceSub, ↓EU_region, ↓EU_draw]
  repeat refine WPo_ob ?_
  refine (LP_rule (fun m st => ∃ (i : Nat) (tm : Fr) (h' : Heap) (v : Value) (r : List Int) (c : Int), st = ⟨tm, h', []⟩ ∧ m = 6 - i ∧ i ≤ 6 ∧ r.length = i ∧ dig r ∧ (-9223372036854775808 ≤ c ∧ c < 9223372036854775808) ∧ Fr.get tm 0 = .int .i64 c ∧ Fr.get tm 4 = v ∧ Fr.get tm 5 = .bool (decide (a < 0)) ∧ Fr.get tm 6 = .int .i64 i ∧ val r + pw i * absI c = absI a ∧ OW (intE .i64) 1 h' v r ∧ Fresh h.next v ∧ Ext h h')
    (fun q => ∃ tm h' v r, q.2 = ⟨tm, h', []⟩ ∧ q.1 = .exit 0 ∧ Fr.get tm 4 = v ∧ Fr.get tm 5 = .bool (decide (a < 0)) ∧ OW (intE .i64) 1 h' v r ∧ Fresh h.next v ∧ Ext h h' ∧ dig r ∧ r.length = 6 ∧ val r = absI a) ?_ 6 _ _ ?_ ?_).mono ?_
  · rintro m _ ⟨i, tm, h', v, r, c, rfl, rfl, hi, hlr, hd, hc, g0, g4, g5, g6, hv, ho', hf', x'⟩
    by_cases q : i < 6
    · have d1 : decide ((i : Int) < 6) = true := decide_eq_true (by omega)
      have k1 := fun t x y => bin_rem0 Try.prog t x y .i64 c 65536 (by decide)
      have k2 := fun t x y => bin_quo Try.prog t x y .i64 c 65536 (by decide)
      obtain ⟨e1, e2⟩ := absI_digit c
      have hac := absI_range hc
      have hdr : 0 ≤ absI c % 65536 ∧ absI c % 65536 < 65536 := by omega
      have hc' : -9223372036854775808 ≤ c.tdiv 65536 ∧ c.tdiv 65536 < 9223372036854775808 := by
        have : absI (c.tdiv 65536) ≤ 9223372036854775807 := by omega
        unfold absI at this
        split at this <;> omega
      have k3 : wrapF .i64 (c.tdiv 65536) = c.tdiv 65536 := wrap64 hc'
      rw [k3] at k2
      have hinv : val (r ++ [absI c % 65536]) + pw (i + 1) * absI (c.tdiv 65536) = absI a := by
        rw [val_app, val_one, hlr, pw_succ, e2, ← hv]
        have e : absI c = absI c % 65536 + 65536 * (absI c / 65536) := by omega
        generalize absI c % 65536 = x at *
        generalize absI c / 65536 = y at *
        rw [e]
        grind
      have hwi : wrapF .i64 ((i : Int) + 1) = ((i + 1 : Nat) : Int) := by rw [wrap64 (by omega)]; rfl
      by_cases q2 : c.tmod 65536 < 0
      · have d2 : decide (c.tmod 65536 < 0) = true := decide_eq_true q2
        have e3 : -(c.tmod 65536) = absI c % 65536 := by
          rw [← e1]; unfold absI; rw [if_pos q2]
        have k4 : wrapF .i64 (0 - c.tmod 65536) = absI c % 65536 := by rw [← e3, wrap64 (by omega)]; omega
        generalize absI c % 65536 = x at *
        simp (maxSteps := 1000000) (disch := first | decide | omega | (simp only [go_sem]; first | done | omega)) only [go_sem, Int.reduceToNat, Nat.reduceMul, Nat.reduceAdd, Nat.reduceSub, ↓EU_region, ↓EU_draw, g0, g4, g5, g6, d1, k1, d2, k4]
        repeat refine WPo_ob ?_
        refine append_own (e := intE .i64) (h0 := h) (l := r) (l' := [x]) fc_ap_30_30 i64_len (by decide) i64_scal (x'.push _) (ho'.ext ((Ext.refl h').push _)) hf' (OW.lit i64_len h' [x]).sl (by simp only [List.length_cons, List.length_nil]; omega) (by simp only [List.length_cons, List.length_nil]; omega) fun v2 h2 ho2 hf2 x2 _ _ => ?_
        simp (maxSteps := 1000000) (disch := first | decide | omega | (simp only [go_sem]; first | done | omega)) only [go_sem, Int.reduceToNat, Nat.reduceMul, Nat.reduceAdd, Nat.reduceSub, ↓EU_region, ↓EU_draw, g0, g4, g5, g6, k2, hwi]
        exact ⟨6 - (i + 1), by omega, i + 1, _, h2, v2, r ++ [x], _, rfl, rfl, by omega, by simp [hlr], dig_app hd (dig_one hdr), hc', by simp (maxSteps := 1000000) (disch := first | decide | omega | (simp only [go_sem]; first | done | omega)) only [go_sem, Int.reduceToNat, Nat.reduceMul, Nat.reduceAdd, Nat.reduceSub, ↓EU_region, ↓EU_draw], by simp (maxSteps := 1000000) (disch := first | decide | omega | (simp only [go_sem]; first | done | omega)) only [go_sem, Int.reduceToNat, Nat.reduceMul, Nat.reduceAdd, Nat.reduceSub, ↓EU_region, ↓EU_draw], by simp (maxSteps := 1000000) (disch := first | decide | omega | (simp only [go_sem]; first | done | omega)) only [go_sem, Int.reduceToNat, Nat.reduceMul, Nat.reduceAdd, Nat.reduceSub, ↓EU_region, ↓EU_draw, g5], by simp (maxSteps := 1000000) (disch := first | decide | omega | (simp only [go_sem]; first | done | omega)) only [go_sem, Int.reduceToNat, Nat.reduceMul, Nat.reduceAdd, Nat.reduceSub, ↓EU_region, ↓EU_draw], hinv, ho2, hf2, x2⟩
      · have d2 : decide (c.tmod 65536 < 0) = false := decide_eq_false q2
        have e3 : c.tmod 65536 = absI c % 65536 := by
          rw [← e1]; unfold absI; rw [if_neg q2]
        rw [e3] at k1 d2
        generalize absI c % 65536 = x at *
        simp (maxSteps := 1000000) (disch := first | decide | omega | (simp only [go_sem]; first | done | omega)) only [go_sem, Int.reduceToNat, Nat.reduceMul, Nat.reduceAdd, Nat.reduceSub, ↓EU_region, ↓EU_draw, g0, g4, g5, g6, d1, k1, d2]
        repeat refine WPo_ob ?_
        refine append_own (e := intE .i64) (h0 := h) (l := r) (l' := [x]) fc_ap_30_30 i64_len (by decide) i64_scal (x'.push _) (ho'.ext ((Ext.refl h').push _)) hf' (OW.lit i64_len h' [x]).sl (by simp only [List.length_cons, List.length_nil]; omega) (by simp only [List.length_cons, List.length_nil]; omega) fun v2 h2 ho2 hf2 x2 _ _ => ?_
        simp (maxSteps := 1000000) (disch := first | decide | omega | (simp only [go_sem]; first | done | omega)) only [go_sem, Int.reduceToNat, Nat.reduceMul, Nat.reduceAdd, Nat.reduceSub, ↓EU_region, ↓EU_draw, g0, g4, g5, g6, k2, hwi]
        exact ⟨6 - (i + 1), by omega, i + 1, _, h2, v2, r ++ [x], _, rfl, rfl, by omega, by simp [hlr], dig_app hd (dig_one hdr), hc', by simp (maxSteps := 1000000) (disch := first | decide | omega | (simp only [go_sem]; first | done | omega)) only [go_sem, Int.reduceToNat, Nat.reduceMul, Nat.reduceAdd, Nat.reduceSub, ↓EU_region, ↓EU_draw], by simp (maxSteps := 1000000) (disch := first | decide | omega | (simp only [go_sem]; first | done | omega)) only [go_sem, Int.reduceToNat, Nat.reduceMul, Nat.reduceAdd, Nat.reduceSub, ↓EU_region, ↓EU_draw], by simp (maxSteps := 1000000) (disch := first | decide | omega | (simp only [go_sem]; first | done | omega)) only [go_sem, Int.reduceToNat, Nat.reduceMul, Nat.reduceAdd, Nat.reduceSub, ↓EU_region, ↓EU_draw, g5], by simp (maxSteps := 1000000) (disch := first | decide | omega | (simp only [go_sem]; first | done | omega)) only [go_sem, Int.reduceToNat, Nat.reduceMul, Nat.reduceAdd, Nat.reduceSub, ↓EU_region, ↓EU_draw], hinv, ho2, hf2, x2⟩
    · have d1 : decide ((i : Int) < 6) = false := decide_eq_false (by omega)
      have e6 : i = 6 := by omega
      subst e6
      simp (maxSteps := 1000000) (disch := first | decide | omega | (simp only [go_sem]; first | done | omega)) only [go_sem, Int.reduceToNat, Nat.reduceMul, Nat.reduceAdd, Nat.reduceSub, ↓EU_region, ↓EU_draw, g0, g4, g5, g6, d1]
      have hr := val_range hd
      have hac := absI_range hra
      have hp6 : pw 6 = 79228162514264337593543950336 := rfl
      rw [hp6] at hv
      have hcn := absI_nonneg c
      exact ⟨_, _, v, r, rfl, trivial, by simp (maxSteps := 1000000) (disch := first | decide | omega | (simp only [go_sem]; first | done | omega)) only [go_sem, Int.reduceToNat, Nat.reduceMul, Nat.reduceAdd, Nat.reduceSub, ↓EU_region, ↓EU_draw, g4], by simp (maxSteps := 1000000) (disch := first | decide | omega | (simp only [go_sem]; first | done | omega)) only [go_sem, Int.reduceToNat, Nat.reduceMul, Nat.reduceAdd, Nat.reduceSub, ↓EU_region, ↓EU_draw, g5], ho', hf', x', hd, hlr, by omega⟩
  · refine ⟨0, _, h, .slice none 0 1, [], a, rfl, rfl, by decide, rfl, dig_nil, hra, by simp (maxSteps := 1000000) (disch := first | decide | omega | (simp only [go_sem]; first | done | omega)) only [go_sem, Int.reduceToNat, Nat.reduceMul, Nat.reduceAdd, Nat.reduceSub, ↓EU_region, ↓EU_draw], by simp (maxSteps := 1000000) (disch := first | decide | omega | (simp only [go_sem]; first | done | omega)) only [go_sem, Int.reduceToNat, Nat.reduceMul, Nat.reduceAdd, Nat.reduceSub, ↓EU_region, ↓EU_draw], by simp (maxSteps := 1000000) (disch := first | decide | omega | (simp only [go_sem]; first | done | omega)) only [go_sem, Int.reduceToNat, Nat.reduceMul, Nat.reduceAdd, Nat.reduceSub, ↓EU_region, ↓EU_draw], by simp (maxSteps := 1000000) (disch := first | decide | omega | (simp only [go_sem]; first | done | omega)) only [go_sem, Int.reduceToNat, Nat.reduceMul, Nat.reduceAdd, Nat.reduceSub, ↓EU_region, ↓EU_draw]; rfl, ?_, OW.nil, Fresh.nil _ _ _, Ext.refl _⟩
    rw [pw_zero]
    simp [val]
  · omega
  · rintro ⟨q, _⟩ ⟨tm, h', v, r, rfl, rfl, g4, g5, ho', hf', x', hd, hl, hv⟩
    simp (maxSteps := 1000000) (disch := first | decide | omega | (simp only [go_sem]; first | done | omega)) only [go_sem, Int.reduceToNat, Nat.reduceMul, Nat.reduceAdd, Nat.reduceSub, ↓EU_region, ↓EU_draw, g4, g5]
    exact ⟨r, _, rfl, ho'.sl, hf', hd, hl, hv, x'⟩
theorem rof_ev (a : Int) (h : Heap) (hra : -9223372036854775808 ≤ a ∧ a < 9223372036854775808) :
    WPo (EF Try.prog O0 38 [.int .i64 a] h) fun q => ∃ n l s, q.1 = bigV n s ∧ SL (intE .i64) 1 q.2 s l ∧ dig l ∧ l.length = 6 ∧ sv n l = a ∧ Ext h q.2 := by
  rw [EF_body (O := O0) (by kernel_rfl) Try.func38 rfl (rs := [.cell 2 53]) rfl (bad := []) (by kernel_rfl) _ _ (m := 13) rfl]
  simp (maxSteps := 1000000) (disch := first | decide | omega | (simp only [go_sem]; first | done | omega)) only [go_sem, Int.reduceToNat, Nat.reduceMul, Nat.reduceAdd, Nat.reduceSub, ↓EU_region, ↓EU_draw]
  repeat refine WPo_ob ?_
  refine (digits_ev a _ hra).mono ?_
  rintro ⟨v, h1⟩ ⟨l, s, rfl, hs, hf, hd, hl, hv, x1⟩
  simp only at hs x1 hf
  have hn1 := x1.le
  rw [next_push] at hn1
  have c2 : h1.get h.next = .cells [.bool false, .slice none 0 1] 0 := by rw [x1.old _ (by rw [next_push]; omega)]; exact get_push_new _ _
  obtain ⟨sa, sc, rfl⟩ := hs.val
  simp (maxSteps := 1000000) (disch := first | decide | omega | (simp only [go_sem]; first | done | omega)) only [go_sem, Int.reduceToNat, Nat.reduceMul, Nat.reduceAdd, Nat.reduceSub, ↓EU_region, ↓EU_draw, c2]
  refine ⟨_, l, _, rfl, hs.modB (Mod.set (S := fun j => j = h.next) (Mod.refl _ _) _ _ (fun _ => rfl)) (fun j hj q => by have := hf j hj; rw [next_push] at this; omega), hd, hl, ?_, ?_⟩
  · unfold sv
    rw [hv]
    unfold absI
    by_cases q : a < 0
    · rw [decide_eq_true q, if_pos rfl, if_pos q]; omega
    · rw [decide_eq_false q, if_neg (by decide), if_neg q]
  · exact (((Ext.refl h).push _).trans x1).set _ _ (Nat.le_refl _)
theorem sgn_zero {l : List Int} (h : dig l) : decide (sgnC (val l) (val []) = 0) = decide (val l = 0) := by
  have := (val_range h).1
  have e0 : val ([] : List Int) = 0 := rfl
  rw [e0, decide_eq_decide]
  unfold sgnC
  rw [if_neg (by omega)]
  by_cases q : 0 < val l
  · rw [if_pos q]; omega
  · rw [if_neg q]; omega
theorem zero_ev (n : Bool) (l : List Int) (s : Value) (h : Heap) (hs : SL (intE .i64) 1 h s l) (hd : dig l) (hl : l.length < 900) :
    Pu (EF Try.prog O0 50 [bigV n s] h) h (.bool (decide (val l = 0))) := by
  unfold Pu bigV
  obtain ⟨sa, sc, rfl⟩ := hs.val
  have hc := cmpSize_ev l [] _ (.slice none 0 1) (h.push (.cells [.bool n, .slice sa l.length sc] 0)) (hs.ext ((Ext.refl h).push _)) SL.nil hd dig_nil hl (by decide)
  have hz := sgn_zero hd
  rw [EF_body (O := O0) (by kernel_rfl) Try.func50 rfl (rs := [.tmp 2]) rfl (bad := []) (by kernel_rfl) _ _ (m := 7) rfl]
  simp (maxSteps := 1000000) (disch := first | decide | omega | (simp only [go_sem]; first | done | omega)) only [go_sem, Int.reduceToNat, Nat.reduceMul, Nat.reduceAdd, Nat.reduceSub, ↓EU_region, ↓EU_draw, hc, hz]
  exact ⟨trivial, (Ext.refl h).push _⟩
theorem rcmp_ev (n m : Bool) (a b : List Int) (s t : Value) (h : Heap) (hs : SL (intE .i64) 1 h s a) (ht : SL (intE .i64) 1 h t b) (ha : dig a) (hb : dig b) (hla : a.length < 900) (hlb : b.length < 900) :
    Pu (EF Try.prog O0 42 [bigV n s, bigV m t] h) h (.int .i64 (sgnC (sv n a) (sv m b))) := by
  have za := fun (h' : Heap) (x : Ext h h') => zero_ev n a s h' (hs.ext x) ha hla
  have zb := fun (h' : Heap) (x : Ext h h') => zero_ev m b t h' (ht.ext x) hb hlb
  have cab := fun (h' : Heap) (x : Ext h h') => cmpSize_ev a b s t h' (hs.ext x) (ht.ext x) ha hb hla hlb
  have cba := fun (h' : Heap) (x : Ext h h') => cmpSize_ev b a t s h' (ht.ext x) (hs.ext x) hb ha hlb hla
  unfold Pu
  unfold bigV at *
  obtain ⟨sa, sc, rfl⟩ := hs.val
  obtain ⟨ta, tc, rfl⟩ := ht.val
  have ra := (val_range ha).1
  have rb := (val_range hb).1
  rw [EF_body (O := O0) (by kernel_rfl) Try.func42 rfl (rs := [.tmp 4]) rfl (bad := [1]) (by kernel_rfl) _ _ (m := 45) rfl]
  obtain ⟨h0, hh0⟩ : ∃ z, (h.push (.cells [.bool n, .slice sa a.length sc] 0)).push (.cells [.bool m, .slice ta b.length tc] 0) = z := ⟨_, rfl⟩
  have x0 : Ext h h0 := by rw [← hh0]; repeat (first | exact Ext.refl _ | assumption | refine Ext.push ?_ _ | refine Ext.set ?_ _ _ (by first | omega | (simp only [next_push, next_set]; omega)))
  have c2 : h0.get h.next = .cells [.bool n, .slice sa a.length sc] 0 := by rw [← hh0]; simp (maxSteps := 1000000) (disch := first | decide | omega | (simp only [go_sem]; first | done | omega)) only [go_sem, Int.reduceToNat, Nat.reduceMul, Nat.reduceAdd, Nat.reduceSub, ↓EU_region, ↓EU_draw]
  have c3 : h0.get (h.next + 1) = .cells [.bool m, .slice ta b.length tc] 0 := by rw [← hh0]; simp (maxSteps := 1000000) (disch := first | decide | omega | (simp only [go_sem]; first | done | omega)) only [go_sem, Int.reduceToNat, Nat.reduceMul, Nat.reduceAdd, Nat.reduceSub, ↓EU_region, ↓EU_draw]
  have hn0 : h0.next = h.next + 2 := by rw [← hh0]; simp (maxSteps := 1000000) (disch := first | decide | omega | (simp only [go_sem]; first | done | omega)) only [go_sem, Int.reduceToNat, Nat.reduceMul, Nat.reduceAdd, Nat.reduceSub, ↓EU_region, ↓EU_draw]
  simp (maxSteps := 1000000) (disch := first | decide | omega | (simp only [go_sem]; first | done | omega)) only [go_sem, Int.reduceToNat, Nat.reduceMul, Nat.reduceAdd, Nat.reduceSub, ↓EU_region, ↓EU_draw]
  rw [hh0]
  have hsg : ∀ x y : Int, sgnC (-x) (-y) = sgnC y x := fun x y => by unfold sgnC; split <;> split <;> (try split) <;> (try split) <;> omega
  rw [EU_bad _ _ rfl, EC_tab (tab := [(false, none), (false, none), (false, none), (false, none), (true, none), (false, none), (false, none), (false, none), (false, (some (0, 1))), (false, none), (false, none), (true, none), (false, none), (false, none), (false, none), (false, none)]) (by kernel_rfl)]
  cases n with
  | false =>
    cases m with
    | false =>
      simp (maxSteps := 1000000) (disch := first | decide | omega | (simp only [go_sem]; first | done | omega)) only [go_sem, Int.reduceToNat, Nat.reduceMul, Nat.reduceAdd, Nat.reduceSub, ↓EU_region, ↓EU_draw, c2, c3, cab h0 x0]
      exact ⟨rfl, x0⟩
    | true =>
      simp (maxSteps := 1000000) (disch := first | decide | omega | (simp only [go_sem]; first | done | omega)) only [go_sem, Int.reduceToNat, Nat.reduceMul, Nat.reduceAdd, Nat.reduceSub, ↓EU_region, ↓EU_draw, c2, c3]
      repeat refine WPo_ob ?_
      refine (zb h0 x0).bind fun h1 x1 => ?_
      have hn1 := x1.le
      have k2 := c2
      have k3 := c3
      rw [← x1.old _ (by omega)] at k2 k3
      by_cases q : val b = 0
      · have d : decide (val b = 0) = true := decide_eq_true q
        simp (maxSteps := 1000000) (disch := first | decide | omega | (simp only [go_sem]; first | done | omega)) only [go_sem, Int.reduceToNat, Nat.reduceMul, Nat.reduceAdd, Nat.reduceSub, ↓EU_region, ↓EU_draw, c2, c3, k2, k3, d, cab h1 (x0.trans x1)]
        refine ⟨?_, x0.trans x1⟩
        unfold sv
        rw [q]; rfl
      · have d : decide (val b = 0) = false := decide_eq_false q
        simp (maxSteps := 1000000) (disch := first | decide | omega | (simp only [go_sem]; first | done | omega)) only [go_sem, Int.reduceToNat, Nat.reduceMul, Nat.reduceAdd, Nat.reduceSub, ↓EU_region, ↓EU_draw, c2, c3, k2, k3, d]
        refine ⟨?_, x0.trans x1⟩
        show _ = Value.int .i64 (sgnC (val a) (-val b))
        unfold sgnC
        rw [if_neg (by omega), if_pos (by omega)]
  | true =>
    cases m with
    | false =>
      simp (maxSteps := 1000000) (disch := first | decide | omega | (simp only [go_sem]; first | done | omega)) only [go_sem, Int.reduceToNat, Nat.reduceMul, Nat.reduceAdd, Nat.reduceSub, ↓EU_region, ↓EU_draw, c2, c3]
      repeat refine WPo_ob ?_
      refine (za h0 x0).bind fun h1 x1 => ?_
      have hn1 := x1.le
      have k2 := c2
      have k3 := c3
      rw [← x1.old _ (by omega)] at k2 k3
      by_cases q : val a = 0
      · have d : decide (val a = 0) = true := decide_eq_true q
        simp (maxSteps := 1000000) (disch := first | decide | omega | (simp only [go_sem]; first | done | omega)) only [go_sem, Int.reduceToNat, Nat.reduceMul, Nat.reduceAdd, Nat.reduceSub, ↓EU_region, ↓EU_draw, c2, c3, k2, k3, d, cab h1 (x0.trans x1)]
        refine ⟨?_, x0.trans x1⟩
        unfold sv
        rw [q]; rfl
      · have d : decide (val a = 0) = false := decide_eq_false q
        simp (maxSteps := 1000000) (disch := first | decide | omega | (simp only [go_sem]; first | done | omega)) only [go_sem, Int.reduceToNat, Nat.reduceMul, Nat.reduceAdd, Nat.reduceSub, ↓EU_region, ↓EU_draw, c2, c3, k2, k3, d]
        refine ⟨?_, x0.trans x1⟩
        show _ = Value.int .i64 (sgnC (-val a) (val b))
        unfold sgnC
        rw [if_pos (by omega)]
    | true =>
      simp (maxSteps := 1000000) (disch := first | decide | omega | (simp only [go_sem]; first | done | omega)) only [go_sem, Int.reduceToNat, Nat.reduceMul, Nat.reduceAdd, Nat.reduceSub, ↓EU_region, ↓EU_draw, c2, c3]
      repeat refine WPo_ob ?_
      refine (za h0 x0).bind fun h1 x1 => ?_
      have hn1 := x1.le
      have k2 := c2
      have k3 := c3
      rw [← x1.old _ (by omega)] at k2 k3
      by_cases q : val a = 0
      · have d : decide (val a = 0) = true := decide_eq_true q
        simp (maxSteps := 1000000) (disch := first | decide | omega | (simp only [go_sem]; first | done | omega)) only [go_sem, Int.reduceToNat, Nat.reduceMul, Nat.reduceAdd, Nat.reduceSub, ↓EU_region, ↓EU_draw, c2, c3, k2, k3, d]
        repeat refine WPo_ob ?_
        refine (zb h1 (x0.trans x1)).bind fun h2 x2 => ?_
        have hn2 := x2.le
        have j2 := k2
        have j3 := k3
        rw [← x2.old _ (by omega)] at j2 j3
        by_cases q' : val b = 0
        · have d' : decide (val b = 0) = true := decide_eq_true q'
          simp (maxSteps := 1000000) (disch := first | decide | omega | (simp only [go_sem]; first | done | omega)) only [go_sem, Int.reduceToNat, Nat.reduceMul, Nat.reduceAdd, Nat.reduceSub, ↓EU_region, ↓EU_draw, c2, c3, k2, k3, j2, j3, d, d', cab h2 ((x0.trans x1).trans x2)]
          refine ⟨?_, (x0.trans x1).trans x2⟩
          unfold sv
          rw [q, q']; rfl
        · have d' : decide (val b = 0) = false := decide_eq_false q'
          simp (maxSteps := 1000000) (disch := first | decide | omega | (simp only [go_sem]; first | done | omega)) only [go_sem, Int.reduceToNat, Nat.reduceMul, Nat.reduceAdd, Nat.reduceSub, ↓EU_region, ↓EU_draw, c2, c3, k2, k3, j2, j3, d, d']
          refine ⟨?_, (x0.trans x1).trans x2⟩
          show _ = Value.int .i64 (sgnC (-val a) (-val b))
          unfold sgnC
          rw [if_neg (by omega), if_pos (by omega)]
      · have d : decide (val a = 0) = false := decide_eq_false q
        simp (maxSteps := 1000000) (disch := first | decide | omega | (simp only [go_sem]; first | done | omega)) only [go_sem, Int.reduceToNat, Nat.reduceMul, Nat.reduceAdd, Nat.reduceSub, ↓EU_region, ↓EU_draw, c2, c3, k2, k3, d]
        repeat refine WPo_ob ?_
        refine (zb h1 (x0.trans x1)).bind fun h2 x2 => ?_
        have hn2 := x2.le
        have j2 := k2
        have j3 := k3
        rw [← x2.old _ (by omega)] at j2 j3
        by_cases q' : val b = 0
        · have d' : decide (val b = 0) = true := decide_eq_true q'
          simp (maxSteps := 1000000) (disch := first | decide | omega | (simp only [go_sem]; first | done | omega)) only [go_sem, Int.reduceToNat, Nat.reduceMul, Nat.reduceAdd, Nat.reduceSub, ↓EU_region, ↓EU_draw, c2, c3, k2, k3, j2, j3, d, d']
          refine ⟨?_, (x0.trans x1).trans x2⟩
          show _ = Value.int .i64 (sgnC (-val a) (-val b))
          unfold sgnC
          rw [if_pos (by omega)]
        · have d' : decide (val b = 0) = false := decide_eq_false q'
          simp (maxSteps := 1000000) (disch := first | decide | omega | (simp only [go_sem]; first | done | omega)) only [go_sem, Int.reduceToNat, Nat.reduceMul, Nat.reduceAdd, Nat.reduceSub, ↓EU_region, ↓EU_draw, c2, c3, k2, k3, j2, j3, d, d', cba h2 ((x0.trans x1).trans x2)]
          refine ⟨?_, (x0.trans x1).trans x2⟩
          show _ = Value.int .i64 (sgnC (-val a) (-val b))
          rw [hsg]
end Go.Proofs.Ytoomhlfogeglcaa.EV
