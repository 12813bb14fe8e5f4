/- WeightSays, plainly. No condition. -/
import Derived.Test.YtoomhlfogeglcaaPt3
namespace Go.Proofs.Ytoomhlfogeglcaa.EV
open Go Go.Proofs
set_option linter.unusedVariables false
set_option linter.unusedSimpArgs false
set_option maxRecDepth 100000
set_option pp.deepTerms false
set_option pp.deepTerms.threshold 20
theorem i64_wf {z : Int} (h : (Lit.int .i64 z).wf = true) : -9223372036854775808 ≤ z ∧ z < 9223372036854775808 := by
  have : -9223372036854775808 ≤ z ∧ z ≤ 9223372036854775807 := by simpa [Lit.wf, IntKind.min, IntKind.max, IntKind.signed, IntKind.bits] using h
  omega
theorem tot_ok {l : List Int} (h : (tot l).2 = true) : tot l = (sumI l, true) ∧ l.length ≤ 64 ∧ l.all wgood = true := by
  unfold tot at h ⊢
  by_cases q : (l.all wgood && decide (l.length ≤ 64)) = true
  · rw [if_pos q]
    simp only [Bool.and_eq_true, decide_eq_true_eq] at q
    exact ⟨rfl, q.2, q.1⟩
  · rw [if_neg q] at h
    cases h
theorem longs_ev (l : List Int) (v w : Value) (h : Heap) (hv : SL (intE .i64) 1 h v l) (hw : SL (intE .i64) 1 h w l) (hl : l.length < 900000) :
    EF Try.prog O0 16 [v, w] h = some (.bool true, h) := by
  have : WPo (EF Try.prog O0 16 [v, w] h) fun r => r = (.bool true, h) := by
    rw [EF_body (O := O0) (by kernel_rfl) Try.func16 rfl (rs := [.tmp 4]) rfl (bad := []) (by kernel_rfl) _ _ (m := 26) rfl]
    obtain ⟨a, c, rfl⟩ := hv.val
    obtain ⟨a2, c2, rfl⟩ := hw.val
    have dt : ∀ x : Int, decide (x = x) = true := fun x => decide_eq_true rfl
    simp (maxSteps := 1000000) (disch := first | decide | omega | (simp only [go_sem]; first | done | omega)) only [go_sem, Int.reduceToNat, Nat.reduceMul, Nat.reduceAdd, Nat.reduceSub, ↓EU_region, ↓EU_draw, dec_t, dec_f, dt]
    repeat refine WPo_ob ?_
    refine (LP_rule (fun k st => ∃ (i : Nat) (tm : Fr), st = ⟨tm, h, []⟩ ∧ k = l.length - i ∧ i ≤ l.length ∧ Fr.get tm 0 = .slice a l.length c ∧ Fr.get tm 1 = .slice a2 l.length c2 ∧ Fr.get tm 5 = .int .i64 (i : Int))
      (fun q => ∃ tm, q.2 = ⟨tm, h, []⟩ ∧ q.1 = .exit 0) ?_ l.length _ _ ?_ ?_).mono ?_
    · rintro k _ ⟨i, tm, rfl, hk, hi, g0, g1, g5⟩
      by_cases hq : i < l.length
      · have d : decide ((i : Int) < (l.length : Int)) = true := decide_eq_true (by omega)
        obtain ⟨x, hx⟩ : ∃ x, l[i]? = some x := ⟨_, List.getElem?_eq_getElem hq⟩
        have hwi : wrapF .i64 ((i : Int) + 1) = ((i + 1 : Nat) : Int) := by rw [wrap64 (by omega)]; rfl
        obtain ⟨B, o, c', e, _, _, r1⟩ := hv.at hx rfl
        cases e
        obtain ⟨B2, o2, c2', e, _, _, r2⟩ := hw.at hx rfl
        cases e
        have r1 := r1 0 _ rfl
        have r2 := r2 0 _ rfl
        rw [add_z] at r1 r2
        simp (maxSteps := 1000000) (disch := first | decide | omega | (simp only [go_sem]; first | done | omega)) only [go_sem, Int.reduceToNat, Nat.reduceMul, Nat.reduceAdd, Nat.reduceSub, ↓EU_region, ↓EU_draw, dec_t, dec_f, g0, g1, g5, d, r1, r2, dt, hwi]
        exact ⟨_, by omega, i + 1, _, rfl, rfl, by omega, by simp (maxSteps := 1000000) (disch := first | decide | omega | (simp only [go_sem]; first | done | omega)) only [go_sem, Int.reduceToNat, Nat.reduceMul, Nat.reduceAdd, Nat.reduceSub, ↓EU_region, ↓EU_draw, g0], by simp (maxSteps := 1000000) (disch := first | decide | omega | (simp only [go_sem]; first | done | omega)) only [go_sem, Int.reduceToNat, Nat.reduceMul, Nat.reduceAdd, Nat.reduceSub, ↓EU_region, ↓EU_draw, g1], by simp (maxSteps := 1000000) (disch := first | decide | omega | (simp only [go_sem]; first | done | omega)) only [go_sem, Int.reduceToNat, Nat.reduceMul, Nat.reduceAdd, Nat.reduceSub, ↓EU_region, ↓EU_draw]⟩
      · have d : decide ((i : Int) < (l.length : Int)) = false := decide_eq_false (by omega)
        simp (maxSteps := 1000000) (disch := first | decide | omega | (simp only [go_sem]; first | done | omega)) only [go_sem, Int.reduceToNat, Nat.reduceMul, Nat.reduceAdd, Nat.reduceSub, ↓EU_region, ↓EU_draw, g0, g1, g5, d]
        exact ⟨_, rfl, trivial⟩
    · exact ⟨0, _, rfl, rfl, by omega, by simp (maxSteps := 1000000) (disch := first | decide | omega | (simp only [go_sem]; first | done | omega)) only [go_sem, Int.reduceToNat, Nat.reduceMul, Nat.reduceAdd, Nat.reduceSub, ↓EU_region, ↓EU_draw], by simp (maxSteps := 1000000) (disch := first | decide | omega | (simp only [go_sem]; first | done | omega)) only [go_sem, Int.reduceToNat, Nat.reduceMul, Nat.reduceAdd, Nat.reduceSub, ↓EU_region, ↓EU_draw], by simp (maxSteps := 1000000) (disch := first | decide | omega | (simp only [go_sem]; first | done | omega)) only [go_sem, Int.reduceToNat, Nat.reduceMul, Nat.reduceAdd, Nat.reduceSub, ↓EU_region, ↓EU_draw]; rfl⟩
    · omega
    · rintro ⟨_, _⟩ ⟨tm, rfl, rfl⟩
      simp (maxSteps := 1000000) (disch := first | decide | omega | (simp only [go_sem]; first | done | omega)) only [go_sem, Int.reduceToNat, Nat.reduceMul, Nat.reduceAdd, Nat.reduceSub, ↓EU_region, ↓EU_draw]
  obtain ⟨q, e, rfl⟩ := this
  exact e
theorem longs_nil (h : Heap) (a a2 : Option Addr) (c c2 : Nat) :
    EF Try.prog O0 16 [.slice a 0 c, .slice a2 0 c2] h = some (.bool true, h) := by
  have : WPo (EF Try.prog O0 16 [.slice a 0 c, .slice a2 0 c2] h) fun r => r = (.bool true, h) := by
    rw [EF_body (O := O0) (by kernel_rfl) Try.func16 rfl (rs := [.tmp 4]) rfl (bad := []) (by kernel_rfl) _ _ (m := 26) rfl]
    have d0 : decide (((0 : Nat) : Int) = ((0 : Nat) : Int)) = true := by decide
    have d1 : decide ((0 : Int) < ((0 : Nat) : Int)) = false := by decide
    have d2 : decide ((0 : Int) = (0 : Int)) = true := by decide
    have d3 : decide ((0 : Int) < (0 : Int)) = false := by decide
    simp (maxSteps := 1000000) (disch := first | decide | omega | (simp only [go_sem]; first | done | omega)) only [go_sem, Int.reduceToNat, Nat.reduceMul, Nat.reduceAdd, Nat.reduceSub, ↓EU_region, ↓EU_draw, dec_t, dec_f, d0, d2]
    repeat refine WPo_ob ?_
    refine (LP_rule (fun k st => ∃ (tm : Fr), st = ⟨tm, h, []⟩ ∧ k = 0 ∧ Fr.get tm 0 = .slice a 0 c ∧ Fr.get tm 5 = .int .i64 0)
      (fun q => ∃ tm, q.2 = ⟨tm, h, []⟩ ∧ q.1 = .exit 0) ?_ 0 _ _ ?_ ?_).mono ?_
    · rintro k _ ⟨tm, rfl, hk, g0, g5⟩
      simp (maxSteps := 1000000) (disch := first | decide | omega | (simp only [go_sem]; first | done | omega)) only [go_sem, Int.reduceToNat, Nat.reduceMul, Nat.reduceAdd, Nat.reduceSub, ↓EU_region, ↓EU_draw, dec_t, dec_f, g0, g5, d1, d3]
      exact ⟨_, rfl, trivial⟩
    · exact ⟨_, rfl, rfl, by simp (maxSteps := 1000000) (disch := first | decide | omega | (simp only [go_sem]; first | done | omega)) only [go_sem, Int.reduceToNat, Nat.reduceMul, Nat.reduceAdd, Nat.reduceSub, ↓EU_region, ↓EU_draw], by simp (maxSteps := 1000000) (disch := first | decide | omega | (simp only [go_sem]; first | done | omega)) only [go_sem, Int.reduceToNat, Nat.reduceMul, Nat.reduceAdd, Nat.reduceSub, ↓EU_region, ↓EU_draw]⟩
    · omega
    · rintro ⟨_, _⟩ ⟨tm, rfl, rfl⟩
      simp (maxSteps := 1000000) (disch := first | decide | omega | (simp only [go_sem]; first | done | omega)) only [go_sem, Int.reduceToNat, Nat.reduceMul, Nat.reduceAdd, Nat.reduceSub, ↓EU_region, ↓EU_draw]
  obtain ⟨q, e, rfl⟩ := this
  exact e
theorem rparts_no (l : List Int) (s : Value) (n : Int) (h : Heap) (hs : SL (intE .i64) 1 h s l) (hl : l.length ≤ 1000) (hno : (tot l).2 = false ∨ n < 0 ∨ n > 1099511627776 ∨ l.length = 0) :
    EF Try.prog O0 22 [s, .int .i64 n] h = some (.slice none 0 1, h) := by
  have : WPo (EF Try.prog O0 22 [s, .int .i64 n] h) fun q => q = (.slice none 0 1, h) := by
    rw [EF_body (O := O0) (by kernel_rfl) Try.func22 rfl (rs := [.tmp 4]) rfl (bad := []) (by kernel_rfl) _ _ (m := 120) rfl]
    obtain ⟨a, c, hv⟩ := hs.val
    have ht := rtotal_ev l s h hs hl
    subst hv
    cases h2 : (tot l).2 with
    | false =>
      simp (maxSteps := 1000000) (disch := first | decide | omega | (simp only [go_sem]; first | done | omega)) only [go_sem, Int.reduceToNat, Nat.reduceMul, Nat.reduceAdd, Nat.reduceSub, ↓EU_region, ↓EU_draw, ht, h2]
    | true =>
      by_cases h3 : n < 0
      · have d1 : decide (n < 0) = true := decide_eq_true h3
        simp (maxSteps := 1000000) (disch := first | decide | omega | (simp only [go_sem]; first | done | omega)) only [go_sem, Int.reduceToNat, Nat.reduceMul, Nat.reduceAdd, Nat.reduceSub, ↓EU_region, ↓EU_draw, ht, h2, d1]
      · have d1 : decide (n < 0) = false := decide_eq_false h3
        by_cases h4 : n > 1099511627776
        · have d2 : decide (n > 1099511627776) = true := decide_eq_true h4
          simp (maxSteps := 1000000) (disch := first | decide | omega | (simp only [go_sem]; first | done | omega)) only [go_sem, Int.reduceToNat, Nat.reduceMul, Nat.reduceAdd, Nat.reduceSub, ↓EU_region, ↓EU_draw, ht, h2, d1, d2]
        · have d2 : decide (n > 1099511627776) = false := decide_eq_false h4
          have h5 : l.length = 0 := by
            rcases hno with e | e | e | e
            · rw [h2] at e; cases e
            · exact absurd e h3
            · exact absurd e h4
            · exact e
          have d3 : decide ((l.length : Int) = 0) = true := decide_eq_true (by omega)
          simp (maxSteps := 1000000) (disch := first | decide | omega | (simp only [go_sem]; first | done | omega)) only [go_sem, Int.reduceToNat, Nat.reduceMul, Nat.reduceAdd, Nat.reduceSub, ↓EU_region, ↓EU_draw, dec_t, dec_f, ht, h2, d1, d2, d3]
  obtain ⟨q, e, rfl⟩ := this
  exact e
/-- both give out alike -/
theorem both_ev (l : List Int) (s : Value) (n : Int) (h : Heap) (hs : SL (intE .i64) 1 h s l) (hl : l.length ≤ 70) :
    WPo (EF Try.prog O0 15 [s, .int .i64 n] h) fun q => Ext h q.2 ∧ WPo (EF Try.prog O0 22 [s, .int .i64 n] q.2) fun r => EF Try.prog O0 16 [q.1, r.1] r.2 = some (.bool true, r.2) := by
  by_cases hno : (tot l).2 = false ∨ n < 0 ∨ n > 1099511627776
  · refine ⟨_, parts_no l s n h hs hno, Ext.refl _, _, rparts_no l s n h hs (by omega) ?_, longs_nil _ _ _ _ _⟩
    rcases hno with e | e | e
    · exact .inl e
    · exact .inr (.inl e)
    · exact .inr (.inr (.inl e))
  have h2 : (tot l).2 = true := by
    cases e : (tot l).2 with
    | true => rfl
    | false => exact absurd (.inl e) hno
  obtain ⟨hok, hl64, hg⟩ := tot_ok h2
  have hn : 0 ≤ n ∧ n ≤ 1099511627776 := by omega
  refine (parts_yes l s n h hs hok hl64 hg hn).mono ?_
  rintro ⟨v, h1⟩ ⟨O, Q, left, hleft, pO, sO, lQ, vQ, sQ, oQ, fQ, x1⟩
  simp only at oQ x1
  refine ⟨x1, ?_⟩
  by_cases hz : l.length = 0
  · refine ⟨_, rparts_no l s n h1 (hs.ext x1) (by omega) (.inr (.inr (.inr hz))), ?_⟩
    obtain ⟨a, c, rfl⟩ := oQ.val
    rw [show Q.length = 0 by omega]
    exact longs_nil _ _ _ _ _
  have hgd := sumI_good hg
  have hgw : ∀ w ∈ l, 1 ≤ w ∧ w ≤ 20 := fun w hw => wgood_facts (List.all_eq_true.1 hg w hw)
  have hmay : ∀ w ∈ l, wmay w (sumI l) n = true := fun w hw => wmay_of ⟨(hgw w hw).1, (hgw w hw).2, sumI_mem (fun x hx => (hgw x hx).1) hw, by omega, hn.1⟩
  have hlb := left_bd hmay (by omega) hn
  have lsh : (shL l n).length = l.length := List.length_map ..
  refine (rparts_yes l s n h1 (hs.ext x1) hok hl64 (by omega) hg hn hleft (by omega) pO sO).mono ?_
  rintro ⟨v2, h2'⟩ ⟨Q2, lQ2, vQ2, oQ2, x2⟩
  simp only at oQ2 x2
  have eQ : Q2 = Q := by
    apply List.ext_getElem?
    intro i
    by_cases hi : i < l.length
    · obtain ⟨w, hw⟩ : ∃ w, (shL l n)[i]? = some w := ⟨_, List.getElem?_eq_getElem (by omega)⟩
      rw [vQ i w hw, vQ2 i w hw]
    · rw [List.getElem?_eq_none (by omega), List.getElem?_eq_none (by omega)]
  rw [eQ] at oQ2
  exact longs_ev Q v v2 h2' (oQ.ext x2).sl oQ2.sl (by omega)
set_option maxHeartbeats 4000000 in
theorem law_WeightSays (h : Heap) (w : Int) (ww : (Lit.int .i64 w).wf = true) (t : Int) (wt : (Lit.int .i64 t).wf = true) (n : Int) (wn : (Lit.int .i64 n).wf = true) (g : Int) (wg : (Lit.int .i64 g).wf = true) (s : Value) (l : List Int) (hs : SL (intE .i64) 1 h s l) (wl : ∀ z ∈ l, (Lit.int .i64 z).wf = true) :
    WPo (EF Try.prog O0 4 [.int .i64 w, .int .i64 t, .int .i64 n, .int .i64 g, s] h) fun q => q.1 = .bool true := by
  rw [EF_body (O := O0) (by kernel_rfl) Try.func4 rfl (rs := [.tmp 10]) rfl (bad := []) (by kernel_rfl) _ _ (m := 85) rfl]
  have dt : ∀ x : Int, decide (x = x) = true := fun x => decide_eq_true rfl
  have bs : ∀ x : Bool, (x == x) = true := fun x => by cases x <;> rfl
  have hw := i64_wf ww
  have ht := i64_wf wt
  have hn := i64_wf wn
  obtain ⟨a, c, hv⟩ := hs.val
  by_cases c0 : l.length > 70
  · have d0 : decide ((l.length : Int) > 70) = true := decide_eq_true (by omega)
    rw [hv]
    simp (maxSteps := 1000000) (disch := first | decide | omega | (simp only [go_sem]; first | done | omega)) only [go_sem, Int.reduceToNat, Nat.reduceMul, Nat.reduceAdd, Nat.reduceSub, ↓EU_region, ↓EU_draw, awake_ev, d0]
  have d0 : decide ((l.length : Int) > 70) = false := decide_eq_false (by omega)
  have h1 := total_all l s h hs
  have h2 := rtotal_ev l s h hs (by omega)
  have h3 := share_ev w t n h hw ht hn
  have hb := fun h' (x : Ext h h') => both_ev l s n h' (hs.ext x) (by omega)
  rw [hv] at h1 h2 hb ⊢
  simp (maxSteps := 1000000) (disch := first | decide | omega | (simp only [go_sem]; first | done | omega)) only [go_sem, Int.reduceToNat, Nat.reduceMul, Nat.reduceAdd, Nat.reduceSub, ↓EU_region, ↓EU_draw, dec_t, dec_f, awake_ev, d0, h1, h2, h3, wGood_ev, rgood_ev, wstep_ev, rstep_ev, dt, bs]
  repeat refine WPo_ob ?_
  refine (rshare_ev w t n h hw ht hn).bind fun h4 x4 => ?_
  simp (maxSteps := 1000000) (disch := first | decide | omega | (simp only [go_sem]; first | done | omega)) only [go_sem, Int.reduceToNat, Nat.reduceMul, Nat.reduceAdd, Nat.reduceSub, ↓EU_region, ↓EU_draw, dec_t, dec_f, dt, bs, off_ev, roff_ev]
  repeat refine WPo_ob ?_
  refine (hb h4 x4).mono ?_
  rintro ⟨v5, h5⟩ ⟨x5, r⟩
  simp (maxSteps := 1000000) (disch := first | decide | omega | (simp only [go_sem]; first | done | omega)) only [go_sem, Int.reduceToNat, Nat.reduceMul, Nat.reduceAdd, Nat.reduceSub, ↓EU_region, ↓EU_draw]
  repeat refine WPo_ob ?_
  refine r.mono ?_
  rintro ⟨v6, h6⟩ e6
  simp (maxSteps := 1000000) (disch := first | decide | omega | (simp only [go_sem]; first | done | omega)) only [go_sem, Int.reduceToNat, Nat.reduceMul, Nat.reduceAdd, Nat.reduceSub, ↓EU_region, ↓EU_draw, e6]
end Go.Proofs.Ytoomhlfogeglcaa.EV
