/- The reference's numbers of any size: put. No condition. -/
import Derived.Test.YtoomhlfogeglcaaBig1
namespace Go.Proofs.Ytoomhlfogeglcaa.EV
open Go Go.Proofs
set_option linter.unusedVariables false
set_option linter.unusedSimpArgs false
set_option maxRecDepth 100000
set_option pp.deepTerms false
set_option pp.deepTerms.threshold 20
set_option maxHeartbeats 8000000 in
theorem putA_ev (a b : List Int) (s t : Value) (h : Heap) (hs : SL (intE .i64) 1 h s a) (ht : SL (intE .i64) 1 h t b) (ha : dig a) (hb : dig b) (hla : a.length ≤ 38) (hlb : b.length ≤ 38) :
    WPo (EF Try.prog O0 45 [s, t, .int .i64 (1)] h) fun q => ∃ r, SL (intE .i64) 1 q.2 q.1 r ∧ Fresh h.next q.1 ∧ Ext h q.2 ∧ dig r ∧ val r = val a + val b ∧ (r.length ≤ a.length ∨ r.length ≤ b.length ∨ ((r.length ≤ a.length + 1 ∨ r.length ≤ b.length + 1) ∧ pw (r.length - 1) ≤ val r)) := by
  rw [EF_body (O := O0) (by kernel_rfl) Try.func45 rfl (rs := [.tmp 6]) rfl (bad := []) (by kernel_rfl) _ _ (m := 56) rfl]
  have eat := fun (i : Nat) (h' : Heap) (x : Ext h h') => rat_ev a s i h' (hs.ext x) (by omega)
  have ebt := fun (i : Nat) (h' : Heap) (x : Ext h h') => rat_ev b t i h' (ht.ext x) (by omega)
  obtain ⟨sa, ca, hv⟩ := hs.val
  subst hv
  obtain ⟨sb, cb, hv⟩ := ht.val
  subst hv
  simp (maxSteps := 1000000) (disch := first | decide | omega | (simp only [go_sem]; first | done | omega)) only [go_sem, Int.reduceToNat, Nat.reduceMul, Nat.reduceAdd, Nat.reduceSub, ↓EU_region, ↓EU_draw]
  repeat refine WPo_ob ?_
  refine (LP_rule (fun m st => ∃ (i : Nat) (tm : Fr) (h' : Heap) (v : Value) (r : List Int) (cr : Int), st = ⟨tm, h', []⟩ ∧ m = 60 - i ∧ r.length = i ∧ dig r ∧ (0 ≤ cr ∧ cr ≤ 1) ∧ (i ≤ a.length ∨ i ≤ b.length ∨ (cr = 0 ∧ (i ≤ a.length + 1 ∨ i ≤ b.length + 1) ∧ pw (i - 1) ≤ val a + val b)) ∧ Fr.get tm 0 = .slice sa a.length ca ∧ Fr.get tm 1 = .slice sb b.length cb ∧ Fr.get tm 2 = .int .i64 (1) ∧ Fr.get tm 7 = v ∧ Fr.get tm 8 = .int .i64 cr ∧ Fr.get tm 9 = .int .i64 i ∧ val r + pw i * (cr + val (a.drop i) + val (b.drop i)) = val a + val b ∧ OW (intE .i64) 1 h' v r ∧ Fresh h.next v ∧ Ext h h')
    (fun q => ∃ tm h' v r, q.2 = ⟨tm, h', []⟩ ∧ q.1 = .exit 0 ∧ Fr.get tm 7 = v ∧ OW (intE .i64) 1 h' v r ∧ Fresh h.next v ∧ Ext h h' ∧ dig r ∧ val r = val a + val b ∧ (r.length ≤ a.length ∨ r.length ≤ b.length ∨ ((r.length ≤ a.length + 1 ∨ r.length ≤ b.length + 1) ∧ pw (r.length - 1) ≤ val r))) ?_ 60 _ _ ?_ ?_).mono ?_
  · rintro m _ ⟨i, tm, h', v, r, cr, rfl, rfl, hlr, hd, hcr, hi, g0, g1, g2, g7, g8, g9, hv, ho', hf', x'⟩
    by_cases c1 : i < a.length
    · have d1 : decide ((i : Int) < a.length) = true := decide_eq_true (by omega)
      simp (maxSteps := 1000000) (disch := first | decide | omega | (simp only [go_sem]; first | done | omega)) only [go_sem, Int.reduceToNat, Nat.reduceMul, Nat.reduceAdd, Nat.reduceSub, ↓EU_region, ↓EU_draw, g0, g1, g2, g7, g8, g9, d1]
      have hB := dig_at hb i
      have hA := dig_at ha i
      have va := val_drop a i
      have vb := val_drop b i
      obtain ⟨da, eda⟩ : ∃ z, a.getD i 0 = z := ⟨_, rfl⟩
      obtain ⟨db, edb⟩ : ∃ z, b.getD i 0 = z := ⟨_, rfl⟩
      have eat' := eat i h' x'
      have ebt' := ebt i h' x'
      rw [eda] at hA va eat'
      rw [edb] at hB vb ebt'
      have w1 : wrapF .i64 (1 * db) = db := by rw [wrap64 (by omega)]; omega
      have w2 : wrapF .i64 (da + db) = da + db := by rw [wrap64 (by omega)]; try omega
      have w3 : wrapF .i64 (da + db + cr) = da + db + cr := wrap64 (by omega)
      obtain ⟨x, ex⟩ : ∃ z, da + db + cr = z := ⟨_, rfl⟩
      rw [ex] at w3
      have hx0 : decide (x < 0) = false := decide_eq_false (by omega)
      have hcx : 0 + x / 65536 = x / 65536 := by omega
      have k1 := fun t a b => bin_rem0 Try.prog t a b .i64 x 65536 (by decide)
      have k2 := fun t a b => bin_quo Try.prog t a b .i64 x 65536 (by decide)
      have k3 : x.tmod 65536 = x % 65536 := Int.tmod_eq_emod_of_nonneg (by omega)
      have k4 : x.tdiv 65536 = x / 65536 := Int.tdiv_eq_ediv_of_nonneg (by omega)
      have k5 : wrapF .i64 (x / 65536) = x / 65536 := wrap64 (by omega)
      have k6 : wrapF .i64 (0 + x / 65536) = 0 + x / 65536 := wrap64 (by omega)
      rw [k3] at k1
      rw [k4, k5] at k2
      simp (maxSteps := 1000000) (disch := first | decide | omega | (simp only [go_sem]; first | done | omega)) only [go_sem, Int.reduceToNat, Nat.reduceMul, Nat.reduceAdd, Nat.reduceSub, ↓EU_region, ↓EU_draw, d1, g0, g1, g2, g7, g8, g9, eat', ebt', w1, w2, w3, ex, hx0, k1]
      repeat refine WPo_ob ?_
      refine append_own (e := intE .i64) (h0 := h) (l := r) (l' := [x % 65536]) fc_ap_30_30 i64_len (by decide) i64_scal (x'.push _) (ho'.ext ((Ext.refl h').push _)) hf' (OW.lit i64_len h' [x % 65536]).sl (by simp only [List.length_cons, List.length_nil]; omega) (by simp only [List.length_cons, List.length_nil]; omega) fun v2 h2 ho2 hf2 x2 _ _ => ?_
      have hwi : wrapF .i64 ((i : Int) + 1) = ((i + 1 : Nat) : Int) := by rw [wrap64 (by omega)]; rfl
      simp (maxSteps := 1000000) (disch := first | decide | omega | (simp only [go_sem]; first | done | omega)) only [go_sem, Int.reduceToNat, Nat.reduceMul, Nat.reduceAdd, Nat.reduceSub, ↓EU_region, ↓EU_draw, g0, g1, g2, g9, k2, k6, hwi]
      have hinv : val (r ++ [x % 65536]) + pw (i + 1) * (0 + x / 65536 + val (a.drop (i + 1)) + val (b.drop (i + 1))) = val a + val b := by
        rw [val_app, val_one, hlr, pw_succ, ← hv]
        have e : cr + val (a.drop i) + val (b.drop i) = x % 65536 + 65536 * (0 + x / 65536 + val (a.drop (i + 1)) + val (b.drop (i + 1))) := by omega
        rw [e]
        grind
      exact ⟨60 - (i + 1), by omega, i + 1, _, h2, v2, r ++ [x % 65536], 0 + x / 65536, rfl, rfl, by simp [hlr], dig_app hd (dig_one (by omega)), by omega, (by omega), by simp (maxSteps := 1000000) (disch := first | decide | omega | (simp only [go_sem]; first | done | omega)) only [go_sem, Int.reduceToNat, Nat.reduceMul, Nat.reduceAdd, Nat.reduceSub, ↓EU_region, ↓EU_draw, g0], by simp (maxSteps := 1000000) (disch := first | decide | omega | (simp only [go_sem]; first | done | omega)) only [go_sem, Int.reduceToNat, Nat.reduceMul, Nat.reduceAdd, Nat.reduceSub, ↓EU_region, ↓EU_draw, g1], by simp (maxSteps := 1000000) (disch := first | decide | omega | (simp only [go_sem]; first | done | omega)) only [go_sem, Int.reduceToNat, Nat.reduceMul, Nat.reduceAdd, Nat.reduceSub, ↓EU_region, ↓EU_draw, g2], by simp (maxSteps := 1000000) (disch := first | decide | omega | (simp only [go_sem]; first | done | omega)) only [go_sem, Int.reduceToNat, Nat.reduceMul, Nat.reduceAdd, Nat.reduceSub, ↓EU_region, ↓EU_draw], by simp (maxSteps := 1000000) (disch := first | decide | omega | (simp only [go_sem]; first | done | omega)) only [go_sem, Int.reduceToNat, Nat.reduceMul, Nat.reduceAdd, Nat.reduceSub, ↓EU_region, ↓EU_draw], by simp (maxSteps := 1000000) (disch := first | decide | omega | (simp only [go_sem]; first | done | omega)) only [go_sem, Int.reduceToNat, Nat.reduceMul, Nat.reduceAdd, Nat.reduceSub, ↓EU_region, ↓EU_draw], hinv, ho2, hf2, x2⟩
    · have d1 : decide ((i : Int) < a.length) = false := decide_eq_false (by omega)
      by_cases c2 : i < b.length
      · have d2 : decide ((i : Int) < b.length) = true := decide_eq_true (by omega)
        simp (maxSteps := 1000000) (disch := first | decide | omega | (simp only [go_sem]; first | done | omega)) only [go_sem, Int.reduceToNat, Nat.reduceMul, Nat.reduceAdd, Nat.reduceSub, ↓EU_region, ↓EU_draw, g0, g1, g2, g7, g8, g9, d1, d2]
        have hB := dig_at hb i
        have hA := dig_at ha i
        have va := val_drop a i
        have vb := val_drop b i
        obtain ⟨da, eda⟩ : ∃ z, a.getD i 0 = z := ⟨_, rfl⟩
        obtain ⟨db, edb⟩ : ∃ z, b.getD i 0 = z := ⟨_, rfl⟩
        have eat' := eat i h' x'
        have ebt' := ebt i h' x'
        rw [eda] at hA va eat'
        rw [edb] at hB vb ebt'
        have w1 : wrapF .i64 (1 * db) = db := by rw [wrap64 (by omega)]; omega
        have w2 : wrapF .i64 (da + db) = da + db := by rw [wrap64 (by omega)]; try omega
        have w3 : wrapF .i64 (da + db + cr) = da + db + cr := wrap64 (by omega)
        obtain ⟨x, ex⟩ : ∃ z, da + db + cr = z := ⟨_, rfl⟩
        rw [ex] at w3
        have hx0 : decide (x < 0) = false := decide_eq_false (by omega)
        have hcx : 0 + x / 65536 = x / 65536 := by omega
        have k1 := fun t a b => bin_rem0 Try.prog t a b .i64 x 65536 (by decide)
        have k2 := fun t a b => bin_quo Try.prog t a b .i64 x 65536 (by decide)
        have k3 : x.tmod 65536 = x % 65536 := Int.tmod_eq_emod_of_nonneg (by omega)
        have k4 : x.tdiv 65536 = x / 65536 := Int.tdiv_eq_ediv_of_nonneg (by omega)
        have k5 : wrapF .i64 (x / 65536) = x / 65536 := wrap64 (by omega)
        have k6 : wrapF .i64 (0 + x / 65536) = 0 + x / 65536 := wrap64 (by omega)
        rw [k3] at k1
        rw [k4, k5] at k2
        simp (maxSteps := 1000000) (disch := first | decide | omega | (simp only [go_sem]; first | done | omega)) only [go_sem, Int.reduceToNat, Nat.reduceMul, Nat.reduceAdd, Nat.reduceSub, ↓EU_region, ↓EU_draw, d1, d2, g0, g1, g2, g7, g8, g9, eat', ebt', w1, w2, w3, ex, hx0, k1]
        repeat refine WPo_ob ?_
        refine append_own (e := intE .i64) (h0 := h) (l := r) (l' := [x % 65536]) fc_ap_30_30 i64_len (by decide) i64_scal (x'.push _) (ho'.ext ((Ext.refl h').push _)) hf' (OW.lit i64_len h' [x % 65536]).sl (by simp only [List.length_cons, List.length_nil]; omega) (by simp only [List.length_cons, List.length_nil]; omega) fun v2 h2 ho2 hf2 x2 _ _ => ?_
        have hwi : wrapF .i64 ((i : Int) + 1) = ((i + 1 : Nat) : Int) := by rw [wrap64 (by omega)]; rfl
        simp (maxSteps := 1000000) (disch := first | decide | omega | (simp only [go_sem]; first | done | omega)) only [go_sem, Int.reduceToNat, Nat.reduceMul, Nat.reduceAdd, Nat.reduceSub, ↓EU_region, ↓EU_draw, g0, g1, g2, g9, k2, k6, hwi]
        have hinv : val (r ++ [x % 65536]) + pw (i + 1) * (0 + x / 65536 + val (a.drop (i + 1)) + val (b.drop (i + 1))) = val a + val b := by
          rw [val_app, val_one, hlr, pw_succ, ← hv]
          have e : cr + val (a.drop i) + val (b.drop i) = x % 65536 + 65536 * (0 + x / 65536 + val (a.drop (i + 1)) + val (b.drop (i + 1))) := by omega
          rw [e]
          grind
        exact ⟨60 - (i + 1), by omega, i + 1, _, h2, v2, r ++ [x % 65536], 0 + x / 65536, rfl, rfl, by simp [hlr], dig_app hd (dig_one (by omega)), by omega, (by omega), by simp (maxSteps := 1000000) (disch := first | decide | omega | (simp only [go_sem]; first | done | omega)) only [go_sem, Int.reduceToNat, Nat.reduceMul, Nat.reduceAdd, Nat.reduceSub, ↓EU_region, ↓EU_draw, g0], by simp (maxSteps := 1000000) (disch := first | decide | omega | (simp only [go_sem]; first | done | omega)) only [go_sem, Int.reduceToNat, Nat.reduceMul, Nat.reduceAdd, Nat.reduceSub, ↓EU_region, ↓EU_draw, g1], by simp (maxSteps := 1000000) (disch := first | decide | omega | (simp only [go_sem]; first | done | omega)) only [go_sem, Int.reduceToNat, Nat.reduceMul, Nat.reduceAdd, Nat.reduceSub, ↓EU_region, ↓EU_draw, g2], by simp (maxSteps := 1000000) (disch := first | decide | omega | (simp only [go_sem]; first | done | omega)) only [go_sem, Int.reduceToNat, Nat.reduceMul, Nat.reduceAdd, Nat.reduceSub, ↓EU_region, ↓EU_draw], by simp (maxSteps := 1000000) (disch := first | decide | omega | (simp only [go_sem]; first | done | omega)) only [go_sem, Int.reduceToNat, Nat.reduceMul, Nat.reduceAdd, Nat.reduceSub, ↓EU_region, ↓EU_draw], by simp (maxSteps := 1000000) (disch := first | decide | omega | (simp only [go_sem]; first | done | omega)) only [go_sem, Int.reduceToNat, Nat.reduceMul, Nat.reduceAdd, Nat.reduceSub, ↓EU_region, ↓EU_draw], hinv, ho2, hf2, x2⟩
      · have d2 : decide ((i : Int) < b.length) = false := decide_eq_false (by omega)
        by_cases c3 : cr = 0
        · have d3 : decide (cr = 0) = true := decide_eq_true c3
          simp (maxSteps := 1000000) (disch := first | decide | omega | (simp only [go_sem]; first | done | omega)) only [go_sem, Int.reduceToNat, Nat.reduceMul, Nat.reduceAdd, Nat.reduceSub, ↓EU_region, ↓EU_draw, g0, g1, g2, g7, g8, g9, d1, d2, d3]
          subst c3
          rw [List.drop_of_length_le (by omega), List.drop_of_length_le (by omega)] at hv
          refine ⟨_, _, v, r, rfl, trivial, by simp (maxSteps := 1000000) (disch := first | decide | omega | (simp only [go_sem]; first | done | omega)) only [go_sem, Int.reduceToNat, Nat.reduceMul, Nat.reduceAdd, Nat.reduceSub, ↓EU_region, ↓EU_draw, g7], ho', hf', x', hd, ?_, ?_⟩
          · simp only [val, Int.add_zero, Int.mul_zero] at hv
            exact hv
          · simp only [val, Int.add_zero, Int.mul_zero] at hv
            rw [hv, hlr]
            omega
        · have d3 : decide (cr = 0) = false := decide_eq_false c3
          have d4 : decide ((i : Int) < 40) = true := decide_eq_true (by omega)
          simp (maxSteps := 1000000) (disch := first | decide | omega | (simp only [go_sem]; first | done | omega)) only [go_sem, Int.reduceToNat, Nat.reduceMul, Nat.reduceAdd, Nat.reduceSub, ↓EU_region, ↓EU_draw, g0, g1, g2, g7, g8, g9, d1, d2, d3, d4]
          have va0 : val (a.drop (i + 1)) = 0 := by rw [List.drop_of_length_le (by omega)]; rfl
          have vb0 : val (b.drop (i + 1)) = 0 := by rw [List.drop_of_length_le (by omega)]; rfl
          have va1 : val (a.drop i) = 0 := by rw [List.drop_of_length_le (by omega)]; rfl
          have vb1 : val (b.drop i) = 0 := by rw [List.drop_of_length_le (by omega)]; rfl
          have hpw : pw (i + 1 - 1) ≤ val a + val b := by
            have hr := val_range hd
            have ec : cr = 1 := by omega
            rw [Nat.add_sub_cancel, ← hv, va1, vb1, ec]
            omega
          have hB := dig_at hb i
          have hA := dig_at ha i
          have va := val_drop a i
          have vb := val_drop b i
          obtain ⟨da, eda⟩ : ∃ z, a.getD i 0 = z := ⟨_, rfl⟩
          obtain ⟨db, edb⟩ : ∃ z, b.getD i 0 = z := ⟨_, rfl⟩
          have eat' := eat i h' x'
          have ebt' := ebt i h' x'
          rw [eda] at hA va eat'
          rw [edb] at hB vb ebt'
          have w1 : wrapF .i64 (1 * db) = db := by rw [wrap64 (by omega)]; omega
          have w2 : wrapF .i64 (da + db) = da + db := by rw [wrap64 (by omega)]; try omega
          have w3 : wrapF .i64 (da + db + cr) = da + db + cr := wrap64 (by omega)
          obtain ⟨x, ex⟩ : ∃ z, da + db + cr = z := ⟨_, rfl⟩
          rw [ex] at w3
          have hx0 : decide (x < 0) = false := decide_eq_false (by omega)
          have hcx : 0 + x / 65536 = x / 65536 := by omega
          have k1 := fun t a b => bin_rem0 Try.prog t a b .i64 x 65536 (by decide)
          have k2 := fun t a b => bin_quo Try.prog t a b .i64 x 65536 (by decide)
          have k3 : x.tmod 65536 = x % 65536 := Int.tmod_eq_emod_of_nonneg (by omega)
          have k4 : x.tdiv 65536 = x / 65536 := Int.tdiv_eq_ediv_of_nonneg (by omega)
          have k5 : wrapF .i64 (x / 65536) = x / 65536 := wrap64 (by omega)
          have k6 : wrapF .i64 (0 + x / 65536) = 0 + x / 65536 := wrap64 (by omega)
          rw [k3] at k1
          rw [k4, k5] at k2
          simp (maxSteps := 1000000) (disch := first | decide | omega | (simp only [go_sem]; first | done | omega)) only [go_sem, Int.reduceToNat, Nat.reduceMul, Nat.reduceAdd, Nat.reduceSub, ↓EU_region, ↓EU_draw, d1, d2, d3, d4, g0, g1, g2, g7, g8, g9, eat', ebt', w1, w2, w3, ex, hx0, k1]
          repeat refine WPo_ob ?_
          refine append_own (e := intE .i64) (h0 := h) (l := r) (l' := [x % 65536]) fc_ap_30_30 i64_len (by decide) i64_scal (x'.push _) (ho'.ext ((Ext.refl h').push _)) hf' (OW.lit i64_len h' [x % 65536]).sl (by simp only [List.length_cons, List.length_nil]; omega) (by simp only [List.length_cons, List.length_nil]; omega) fun v2 h2 ho2 hf2 x2 _ _ => ?_
          have hwi : wrapF .i64 ((i : Int) + 1) = ((i + 1 : Nat) : Int) := by rw [wrap64 (by omega)]; rfl
          simp (maxSteps := 1000000) (disch := first | decide | omega | (simp only [go_sem]; first | done | omega)) only [go_sem, Int.reduceToNat, Nat.reduceMul, Nat.reduceAdd, Nat.reduceSub, ↓EU_region, ↓EU_draw, g0, g1, g2, g9, k2, k6, hwi]
          have hinv : val (r ++ [x % 65536]) + pw (i + 1) * (0 + x / 65536 + val (a.drop (i + 1)) + val (b.drop (i + 1))) = val a + val b := by
            rw [val_app, val_one, hlr, pw_succ, ← hv]
            have e : cr + val (a.drop i) + val (b.drop i) = x % 65536 + 65536 * (0 + x / 65536 + val (a.drop (i + 1)) + val (b.drop (i + 1))) := by omega
            rw [e]
            grind
          exact ⟨60 - (i + 1), by omega, i + 1, _, h2, v2, r ++ [x % 65536], 0 + x / 65536, rfl, rfl, by simp [hlr], dig_app hd (dig_one (by omega)), by omega, (.inr (.inr ⟨by omega, by omega, hpw⟩)), by simp (maxSteps := 1000000) (disch := first | decide | omega | (simp only [go_sem]; first | done | omega)) only [go_sem, Int.reduceToNat, Nat.reduceMul, Nat.reduceAdd, Nat.reduceSub, ↓EU_region, ↓EU_draw, g0], by simp (maxSteps := 1000000) (disch := first | decide | omega | (simp only [go_sem]; first | done | omega)) only [go_sem, Int.reduceToNat, Nat.reduceMul, Nat.reduceAdd, Nat.reduceSub, ↓EU_region, ↓EU_draw, g1], by simp (maxSteps := 1000000) (disch := first | decide | omega | (simp only [go_sem]; first | done | omega)) only [go_sem, Int.reduceToNat, Nat.reduceMul, Nat.reduceAdd, Nat.reduceSub, ↓EU_region, ↓EU_draw, g2], by simp (maxSteps := 1000000) (disch := first | decide | omega | (simp only [go_sem]; first | done | omega)) only [go_sem, Int.reduceToNat, Nat.reduceMul, Nat.reduceAdd, Nat.reduceSub, ↓EU_region, ↓EU_draw], by simp (maxSteps := 1000000) (disch := first | decide | omega | (simp only [go_sem]; first | done | omega)) only [go_sem, Int.reduceToNat, Nat.reduceMul, Nat.reduceAdd, Nat.reduceSub, ↓EU_region, ↓EU_draw], by simp (maxSteps := 1000000) (disch := first | decide | omega | (simp only [go_sem]; first | done | omega)) only [go_sem, Int.reduceToNat, Nat.reduceMul, Nat.reduceAdd, Nat.reduceSub, ↓EU_region, ↓EU_draw], hinv, ho2, hf2, x2⟩
  · refine ⟨0, _, h, .slice none 0 1, [], 0, rfl, rfl, rfl, dig_nil, by decide, by omega, by simp (maxSteps := 1000000) (disch := first | decide | omega | (simp only [go_sem]; first | done | omega)) only [go_sem, Int.reduceToNat, Nat.reduceMul, Nat.reduceAdd, Nat.reduceSub, ↓EU_region, ↓EU_draw], by simp (maxSteps := 1000000) (disch := first | decide | omega | (simp only [go_sem]; first | done | omega)) only [go_sem, Int.reduceToNat, Nat.reduceMul, Nat.reduceAdd, Nat.reduceSub, ↓EU_region, ↓EU_draw], by simp (maxSteps := 1000000) (disch := first | decide | omega | (simp only [go_sem]; first | done | omega)) only [go_sem, Int.reduceToNat, Nat.reduceMul, Nat.reduceAdd, Nat.reduceSub, ↓EU_region, ↓EU_draw], by simp (maxSteps := 1000000) (disch := first | decide | omega | (simp only [go_sem]; first | done | omega)) only [go_sem, Int.reduceToNat, Nat.reduceMul, Nat.reduceAdd, Nat.reduceSub, ↓EU_region, ↓EU_draw], by simp (maxSteps := 1000000) (disch := first | decide | omega | (simp only [go_sem]; first | done | omega)) only [go_sem, Int.reduceToNat, Nat.reduceMul, Nat.reduceAdd, Nat.reduceSub, ↓EU_region, ↓EU_draw], by simp (maxSteps := 1000000) (disch := first | decide | omega | (simp only [go_sem]; first | done | omega)) only [go_sem, Int.reduceToNat, Nat.reduceMul, Nat.reduceAdd, Nat.reduceSub, ↓EU_region, ↓EU_draw]; rfl, ?_, OW.nil, Fresh.nil _ _ _, Ext.refl _⟩
    rw [List.drop_zero, List.drop_zero, pw_zero]
    simp [val]
  · omega
  · rintro ⟨q, _⟩ ⟨tm, h', v, r, rfl, rfl, g7, ho', hf', x', hd, hv, hl⟩
    simp (maxSteps := 1000000) (disch := first | decide | omega | (simp only [go_sem]; first | done | omega)) only [go_sem, Int.reduceToNat, Nat.reduceMul, Nat.reduceAdd, Nat.reduceSub, ↓EU_region, ↓EU_draw, g7]
    exact ⟨r, ho'.sl, hf', x', hd, hv, hl⟩
set_option maxHeartbeats 8000000 in
theorem putS_ev (a b : List Int) (s t : Value) (h : Heap) (hs : SL (intE .i64) 1 h s a) (ht : SL (intE .i64) 1 h t b) (ha : dig a) (hb : dig b) (hla : a.length ≤ 38) (hlb : b.length ≤ 38) (hge : val b ≤ val a) :
    WPo (EF Try.prog O0 45 [s, t, .int .i64 (-1)] h) fun q => ∃ r, SL (intE .i64) 1 q.2 q.1 r ∧ Fresh h.next q.1 ∧ Ext h q.2 ∧ dig r ∧ val r = val a - val b ∧ (r.length ≤ a.length ∨ r.length ≤ b.length) := by
  rw [EF_body (O := O0) (by kernel_rfl) Try.func45 rfl (rs := [.tmp 6]) rfl (bad := []) (by kernel_rfl) _ _ (m := 56) rfl]
  have eat := fun (i : Nat) (h' : Heap) (x : Ext h h') => rat_ev a s i h' (hs.ext x) (by omega)
  have ebt := fun (i : Nat) (h' : Heap) (x : Ext h h') => rat_ev b t i h' (ht.ext x) (by omega)
  obtain ⟨sa, ca, hv⟩ := hs.val
  subst hv
  obtain ⟨sb, cb, hv⟩ := ht.val
  subst hv
  simp (maxSteps := 1000000) (disch := first | decide | omega | (simp only [go_sem]; first | done | omega)) only [go_sem, Int.reduceToNat, Nat.reduceMul, Nat.reduceAdd, Nat.reduceSub, ↓EU_region, ↓EU_draw]
  repeat refine WPo_ob ?_
  refine (LP_rule (fun m st => ∃ (i : Nat) (tm : Fr) (h' : Heap) (v : Value) (r : List Int) (cr : Int), st = ⟨tm, h', []⟩ ∧ m = 60 - i ∧ r.length = i ∧ dig r ∧ (-1 ≤ cr ∧ cr ≤ 0) ∧ (i ≤ a.length ∨ i ≤ b.length) ∧ Fr.get tm 0 = .slice sa a.length ca ∧ Fr.get tm 1 = .slice sb b.length cb ∧ Fr.get tm 2 = .int .i64 (-1) ∧ Fr.get tm 7 = v ∧ Fr.get tm 8 = .int .i64 cr ∧ Fr.get tm 9 = .int .i64 i ∧ val r + pw i * (cr + val (a.drop i) - val (b.drop i)) = val a - val b ∧ OW (intE .i64) 1 h' v r ∧ Fresh h.next v ∧ Ext h h')
    (fun q => ∃ tm h' v r, q.2 = ⟨tm, h', []⟩ ∧ q.1 = .exit 0 ∧ Fr.get tm 7 = v ∧ OW (intE .i64) 1 h' v r ∧ Fresh h.next v ∧ Ext h h' ∧ dig r ∧ val r = val a - val b ∧ (r.length ≤ a.length ∨ r.length ≤ b.length)) ?_ 60 _ _ ?_ ?_).mono ?_
  · rintro m _ ⟨i, tm, h', v, r, cr, rfl, rfl, hlr, hd, hcr, hi, g0, g1, g2, g7, g8, g9, hv, ho', hf', x'⟩
    by_cases c1 : i < a.length
    · have d1 : decide ((i : Int) < a.length) = true := decide_eq_true (by omega)
      simp (maxSteps := 1000000) (disch := first | decide | omega | (simp only [go_sem]; first | done | omega)) only [go_sem, Int.reduceToNat, Nat.reduceMul, Nat.reduceAdd, Nat.reduceSub, ↓EU_region, ↓EU_draw, g0, g1, g2, g7, g8, g9, d1]
      have hB := dig_at hb i
      have hA := dig_at ha i
      have va := val_drop a i
      have vb := val_drop b i
      obtain ⟨da, eda⟩ : ∃ z, a.getD i 0 = z := ⟨_, rfl⟩
      obtain ⟨db, edb⟩ : ∃ z, b.getD i 0 = z := ⟨_, rfl⟩
      have eat' := eat i h' x'
      have ebt' := ebt i h' x'
      rw [eda] at hA va eat'
      rw [edb] at hB vb ebt'
      have w1 : wrapF .i64 (-1 * db) = -db := by rw [wrap64 (by omega)]; omega
      have w2 : wrapF .i64 (da + -db) = da - db := by rw [wrap64 (by omega)]; try omega
      have w3 : wrapF .i64 (da - db + cr) = da - db + cr := wrap64 (by omega)
      obtain ⟨x, ex⟩ : ∃ z, da - db + cr = z := ⟨_, rfl⟩
      rw [ex] at w3
      by_cases c : x < 0
      · have hx0 : decide (x < 0) = true := decide_eq_true c
        have w4 : wrapF .i64 (x + 65536) = x + 65536 := wrap64 (by omega)
        obtain ⟨y, ey⟩ : ∃ z, x + 65536 = z := ⟨_, rfl⟩
        rw [ey] at w4
        have k1 := fun t a b => bin_rem0 Try.prog t a b .i64 y 65536 (by decide)
        have k2 := fun t a b => bin_quo Try.prog t a b .i64 y 65536 (by decide)
        have k3 : y.tmod 65536 = y % 65536 := Int.tmod_eq_emod_of_nonneg (by omega)
        have k4 : y.tdiv 65536 = y / 65536 := Int.tdiv_eq_ediv_of_nonneg (by omega)
        have k5 : wrapF .i64 (y / 65536) = y / 65536 := wrap64 (by omega)
        have k6 : wrapF .i64 (-1 + y / 65536) = -1 + y / 65536 := wrap64 (by omega)
        rw [k3] at k1
        rw [k4, k5] at k2
        simp (maxSteps := 1000000) (disch := first | decide | omega | (simp only [go_sem]; first | done | omega)) only [go_sem, Int.reduceToNat, Nat.reduceMul, Nat.reduceAdd, Nat.reduceSub, ↓EU_region, ↓EU_draw, d1, g0, g1, g2, g7, g8, g9, eat', ebt', w1, w2, w3, ex, hx0, w4, ey, k1]
        repeat refine WPo_ob ?_
        refine append_own (e := intE .i64) (h0 := h) (l := r) (l' := [y % 65536]) fc_ap_30_30 i64_len (by decide) i64_scal (x'.push _) (ho'.ext ((Ext.refl h').push _)) hf' (OW.lit i64_len h' [y % 65536]).sl (by simp only [List.length_cons, List.length_nil]; omega) (by simp only [List.length_cons, List.length_nil]; omega) fun v2 h2 ho2 hf2 x2 _ _ => ?_
        have hwi : wrapF .i64 ((i : Int) + 1) = ((i + 1 : Nat) : Int) := by rw [wrap64 (by omega)]; rfl
        simp (maxSteps := 1000000) (disch := first | decide | omega | (simp only [go_sem]; first | done | omega)) only [go_sem, Int.reduceToNat, Nat.reduceMul, Nat.reduceAdd, Nat.reduceSub, ↓EU_region, ↓EU_draw, g0, g1, g2, g9, k2, k6, hwi]
        have hinv : val (r ++ [y % 65536]) + pw (i + 1) * (-1 + y / 65536 + val (a.drop (i + 1)) - val (b.drop (i + 1))) = val a - val b := by
          rw [val_app, val_one, hlr, pw_succ, ← hv]
          have e : cr + val (a.drop i) - val (b.drop i) = y % 65536 + 65536 * (-1 + y / 65536 + val (a.drop (i + 1)) - val (b.drop (i + 1))) := by omega
          rw [e]
          grind
        exact ⟨60 - (i + 1), by omega, i + 1, _, h2, v2, r ++ [y % 65536], -1 + y / 65536, rfl, rfl, by simp [hlr], dig_app hd (dig_one (by omega)), by omega, (by omega), by simp (maxSteps := 1000000) (disch := first | decide | omega | (simp only [go_sem]; first | done | omega)) only [go_sem, Int.reduceToNat, Nat.reduceMul, Nat.reduceAdd, Nat.reduceSub, ↓EU_region, ↓EU_draw, g0], by simp (maxSteps := 1000000) (disch := first | decide | omega | (simp only [go_sem]; first | done | omega)) only [go_sem, Int.reduceToNat, Nat.reduceMul, Nat.reduceAdd, Nat.reduceSub, ↓EU_region, ↓EU_draw, g1], by simp (maxSteps := 1000000) (disch := first | decide | omega | (simp only [go_sem]; first | done | omega)) only [go_sem, Int.reduceToNat, Nat.reduceMul, Nat.reduceAdd, Nat.reduceSub, ↓EU_region, ↓EU_draw, g2], by simp (maxSteps := 1000000) (disch := first | decide | omega | (simp only [go_sem]; first | done | omega)) only [go_sem, Int.reduceToNat, Nat.reduceMul, Nat.reduceAdd, Nat.reduceSub, ↓EU_region, ↓EU_draw], by simp (maxSteps := 1000000) (disch := first | decide | omega | (simp only [go_sem]; first | done | omega)) only [go_sem, Int.reduceToNat, Nat.reduceMul, Nat.reduceAdd, Nat.reduceSub, ↓EU_region, ↓EU_draw], by simp (maxSteps := 1000000) (disch := first | decide | omega | (simp only [go_sem]; first | done | omega)) only [go_sem, Int.reduceToNat, Nat.reduceMul, Nat.reduceAdd, Nat.reduceSub, ↓EU_region, ↓EU_draw], hinv, ho2, hf2, x2⟩
      · have hx0 : decide (x < 0) = false := decide_eq_false c
        have k1 := fun t a b => bin_rem0 Try.prog t a b .i64 x 65536 (by decide)
        have k2 := fun t a b => bin_quo Try.prog t a b .i64 x 65536 (by decide)
        have k3 : x.tmod 65536 = x % 65536 := Int.tmod_eq_emod_of_nonneg (by omega)
        have k4 : x.tdiv 65536 = x / 65536 := Int.tdiv_eq_ediv_of_nonneg (by omega)
        have k5 : wrapF .i64 (x / 65536) = x / 65536 := wrap64 (by omega)
        have k6 : wrapF .i64 (0 + x / 65536) = 0 + x / 65536 := wrap64 (by omega)
        rw [k3] at k1
        rw [k4, k5] at k2
        simp (maxSteps := 1000000) (disch := first | decide | omega | (simp only [go_sem]; first | done | omega)) only [go_sem, Int.reduceToNat, Nat.reduceMul, Nat.reduceAdd, Nat.reduceSub, ↓EU_region, ↓EU_draw, d1, g0, g1, g2, g7, g8, g9, eat', ebt', w1, w2, w3, ex, hx0, k1]
        repeat refine WPo_ob ?_
        refine append_own (e := intE .i64) (h0 := h) (l := r) (l' := [x % 65536]) fc_ap_30_30 i64_len (by decide) i64_scal (x'.push _) (ho'.ext ((Ext.refl h').push _)) hf' (OW.lit i64_len h' [x % 65536]).sl (by simp only [List.length_cons, List.length_nil]; omega) (by simp only [List.length_cons, List.length_nil]; omega) fun v2 h2 ho2 hf2 x2 _ _ => ?_
        have hwi : wrapF .i64 ((i : Int) + 1) = ((i + 1 : Nat) : Int) := by rw [wrap64 (by omega)]; rfl
        simp (maxSteps := 1000000) (disch := first | decide | omega | (simp only [go_sem]; first | done | omega)) only [go_sem, Int.reduceToNat, Nat.reduceMul, Nat.reduceAdd, Nat.reduceSub, ↓EU_region, ↓EU_draw, g0, g1, g2, g9, k2, k6, hwi]
        have hinv : val (r ++ [x % 65536]) + pw (i + 1) * (0 + x / 65536 + val (a.drop (i + 1)) - val (b.drop (i + 1))) = val a - val b := by
          rw [val_app, val_one, hlr, pw_succ, ← hv]
          have e : cr + val (a.drop i) - val (b.drop i) = x % 65536 + 65536 * (0 + x / 65536 + val (a.drop (i + 1)) - val (b.drop (i + 1))) := by omega
          rw [e]
          grind
        exact ⟨60 - (i + 1), by omega, i + 1, _, h2, v2, r ++ [x % 65536], 0 + x / 65536, rfl, rfl, by simp [hlr], dig_app hd (dig_one (by omega)), by omega, (by omega), by simp (maxSteps := 1000000) (disch := first | decide | omega | (simp only [go_sem]; first | done | omega)) only [go_sem, Int.reduceToNat, Nat.reduceMul, Nat.reduceAdd, Nat.reduceSub, ↓EU_region, ↓EU_draw, g0], by simp (maxSteps := 1000000) (disch := first | decide | omega | (simp only [go_sem]; first | done | omega)) only [go_sem, Int.reduceToNat, Nat.reduceMul, Nat.reduceAdd, Nat.reduceSub, ↓EU_region, ↓EU_draw, g1], by simp (maxSteps := 1000000) (disch := first | decide | omega | (simp only [go_sem]; first | done | omega)) only [go_sem, Int.reduceToNat, Nat.reduceMul, Nat.reduceAdd, Nat.reduceSub, ↓EU_region, ↓EU_draw, g2], by simp (maxSteps := 1000000) (disch := first | decide | omega | (simp only [go_sem]; first | done | omega)) only [go_sem, Int.reduceToNat, Nat.reduceMul, Nat.reduceAdd, Nat.reduceSub, ↓EU_region, ↓EU_draw], by simp (maxSteps := 1000000) (disch := first | decide | omega | (simp only [go_sem]; first | done | omega)) only [go_sem, Int.reduceToNat, Nat.reduceMul, Nat.reduceAdd, Nat.reduceSub, ↓EU_region, ↓EU_draw], by simp (maxSteps := 1000000) (disch := first | decide | omega | (simp only [go_sem]; first | done | omega)) only [go_sem, Int.reduceToNat, Nat.reduceMul, Nat.reduceAdd, Nat.reduceSub, ↓EU_region, ↓EU_draw], hinv, ho2, hf2, x2⟩
    · have d1 : decide ((i : Int) < a.length) = false := decide_eq_false (by omega)
      by_cases c2 : i < b.length
      · have d2 : decide ((i : Int) < b.length) = true := decide_eq_true (by omega)
        simp (maxSteps := 1000000) (disch := first | decide | omega | (simp only [go_sem]; first | done | omega)) only [go_sem, Int.reduceToNat, Nat.reduceMul, Nat.reduceAdd, Nat.reduceSub, ↓EU_region, ↓EU_draw, g0, g1, g2, g7, g8, g9, d1, d2]
        have hB := dig_at hb i
        have hA := dig_at ha i
        have va := val_drop a i
        have vb := val_drop b i
        obtain ⟨da, eda⟩ : ∃ z, a.getD i 0 = z := ⟨_, rfl⟩
        obtain ⟨db, edb⟩ : ∃ z, b.getD i 0 = z := ⟨_, rfl⟩
        have eat' := eat i h' x'
        have ebt' := ebt i h' x'
        rw [eda] at hA va eat'
        rw [edb] at hB vb ebt'
        have w1 : wrapF .i64 (-1 * db) = -db := by rw [wrap64 (by omega)]; omega
        have w2 : wrapF .i64 (da + -db) = da - db := by rw [wrap64 (by omega)]; try omega
        have w3 : wrapF .i64 (da - db + cr) = da - db + cr := wrap64 (by omega)
        obtain ⟨x, ex⟩ : ∃ z, da - db + cr = z := ⟨_, rfl⟩
        rw [ex] at w3
        by_cases c : x < 0
        · have hx0 : decide (x < 0) = true := decide_eq_true c
          have w4 : wrapF .i64 (x + 65536) = x + 65536 := wrap64 (by omega)
          obtain ⟨y, ey⟩ : ∃ z, x + 65536 = z := ⟨_, rfl⟩
          rw [ey] at w4
          have k1 := fun t a b => bin_rem0 Try.prog t a b .i64 y 65536 (by decide)
          have k2 := fun t a b => bin_quo Try.prog t a b .i64 y 65536 (by decide)
          have k3 : y.tmod 65536 = y % 65536 := Int.tmod_eq_emod_of_nonneg (by omega)
          have k4 : y.tdiv 65536 = y / 65536 := Int.tdiv_eq_ediv_of_nonneg (by omega)
          have k5 : wrapF .i64 (y / 65536) = y / 65536 := wrap64 (by omega)
          have k6 : wrapF .i64 (-1 + y / 65536) = -1 + y / 65536 := wrap64 (by omega)
          rw [k3] at k1
          rw [k4, k5] at k2
          simp (maxSteps := 1000000) (disch := first | decide | omega | (simp only [go_sem]; first | done | omega)) only [go_sem, Int.reduceToNat, Nat.reduceMul, Nat.reduceAdd, Nat.reduceSub, ↓EU_region, ↓EU_draw, d1, d2, g0, g1, g2, g7, g8, g9, eat', ebt', w1, w2, w3, ex, hx0, w4, ey, k1]
          repeat refine WPo_ob ?_
          refine append_own (e := intE .i64) (h0 := h) (l := r) (l' := [y % 65536]) fc_ap_30_30 i64_len (by decide) i64_scal (x'.push _) (ho'.ext ((Ext.refl h').push _)) hf' (OW.lit i64_len h' [y % 65536]).sl (by simp only [List.length_cons, List.length_nil]; omega) (by simp only [List.length_cons, List.length_nil]; omega) fun v2 h2 ho2 hf2 x2 _ _ => ?_
          have hwi : wrapF .i64 ((i : Int) + 1) = ((i + 1 : Nat) : Int) := by rw [wrap64 (by omega)]; rfl
          simp (maxSteps := 1000000) (disch := first | decide | omega | (simp only [go_sem]; first | done | omega)) only [go_sem, Int.reduceToNat, Nat.reduceMul, Nat.reduceAdd, Nat.reduceSub, ↓EU_region, ↓EU_draw, g0, g1, g2, g9, k2, k6, hwi]
          have hinv : val (r ++ [y % 65536]) + pw (i + 1) * (-1 + y / 65536 + val (a.drop (i + 1)) - val (b.drop (i + 1))) = val a - val b := by
            rw [val_app, val_one, hlr, pw_succ, ← hv]
            have e : cr + val (a.drop i) - val (b.drop i) = y % 65536 + 65536 * (-1 + y / 65536 + val (a.drop (i + 1)) - val (b.drop (i + 1))) := by omega
            rw [e]
            grind
          exact ⟨60 - (i + 1), by omega, i + 1, _, h2, v2, r ++ [y % 65536], -1 + y / 65536, rfl, rfl, by simp [hlr], dig_app hd (dig_one (by omega)), by omega, (by omega), by simp (maxSteps := 1000000) (disch := first | decide | omega | (simp only [go_sem]; first | done | omega)) only [go_sem, Int.reduceToNat, Nat.reduceMul, Nat.reduceAdd, Nat.reduceSub, ↓EU_region, ↓EU_draw, g0], by simp (maxSteps := 1000000) (disch := first | decide | omega | (simp only [go_sem]; first | done | omega)) only [go_sem, Int.reduceToNat, Nat.reduceMul, Nat.reduceAdd, Nat.reduceSub, ↓EU_region, ↓EU_draw, g1], by simp (maxSteps := 1000000) (disch := first | decide | omega | (simp only [go_sem]; first | done | omega)) only [go_sem, Int.reduceToNat, Nat.reduceMul, Nat.reduceAdd, Nat.reduceSub, ↓EU_region, ↓EU_draw, g2], by simp (maxSteps := 1000000) (disch := first | decide | omega | (simp only [go_sem]; first | done | omega)) only [go_sem, Int.reduceToNat, Nat.reduceMul, Nat.reduceAdd, Nat.reduceSub, ↓EU_region, ↓EU_draw], by simp (maxSteps := 1000000) (disch := first | decide | omega | (simp only [go_sem]; first | done | omega)) only [go_sem, Int.reduceToNat, Nat.reduceMul, Nat.reduceAdd, Nat.reduceSub, ↓EU_region, ↓EU_draw], by simp (maxSteps := 1000000) (disch := first | decide | omega | (simp only [go_sem]; first | done | omega)) only [go_sem, Int.reduceToNat, Nat.reduceMul, Nat.reduceAdd, Nat.reduceSub, ↓EU_region, ↓EU_draw], hinv, ho2, hf2, x2⟩
        · have hx0 : decide (x < 0) = false := decide_eq_false c
          have k1 := fun t a b => bin_rem0 Try.prog t a b .i64 x 65536 (by decide)
          have k2 := fun t a b => bin_quo Try.prog t a b .i64 x 65536 (by decide)
          have k3 : x.tmod 65536 = x % 65536 := Int.tmod_eq_emod_of_nonneg (by omega)
          have k4 : x.tdiv 65536 = x / 65536 := Int.tdiv_eq_ediv_of_nonneg (by omega)
          have k5 : wrapF .i64 (x / 65536) = x / 65536 := wrap64 (by omega)
          have k6 : wrapF .i64 (0 + x / 65536) = 0 + x / 65536 := wrap64 (by omega)
          rw [k3] at k1
          rw [k4, k5] at k2
          simp (maxSteps := 1000000) (disch := first | decide | omega | (simp only [go_sem]; first | done | omega)) only [go_sem, Int.reduceToNat, Nat.reduceMul, Nat.reduceAdd, Nat.reduceSub, ↓EU_region, ↓EU_draw, d1, d2, g0, g1, g2, g7, g8, g9, eat', ebt', w1, w2, w3, ex, hx0, k1]
          repeat refine WPo_ob ?_
          refine append_own (e := intE .i64) (h0 := h) (l := r) (l' := [x % 65536]) fc_ap_30_30 i64_len (by decide) i64_scal (x'.push _) (ho'.ext ((Ext.refl h').push _)) hf' (OW.lit i64_len h' [x % 65536]).sl (by simp only [List.length_cons, List.length_nil]; omega) (by simp only [List.length_cons, List.length_nil]; omega) fun v2 h2 ho2 hf2 x2 _ _ => ?_
          have hwi : wrapF .i64 ((i : Int) + 1) = ((i + 1 : Nat) : Int) := by rw [wrap64 (by omega)]; rfl
          simp (maxSteps := 1000000) (disch := first | decide | omega | (simp only [go_sem]; first | done | omega)) only [go_sem, Int.reduceToNat, Nat.reduceMul, Nat.reduceAdd, Nat.reduceSub, ↓EU_region, ↓EU_draw, g0, g1, g2, g9, k2, k6, hwi]
          have hinv : val (r ++ [x % 65536]) + pw (i + 1) * (0 + x / 65536 + val (a.drop (i + 1)) - val (b.drop (i + 1))) = val a - val b := by
            rw [val_app, val_one, hlr, pw_succ, ← hv]
            have e : cr + val (a.drop i) - val (b.drop i) = x % 65536 + 65536 * (0 + x / 65536 + val (a.drop (i + 1)) - val (b.drop (i + 1))) := by omega
            rw [e]
            grind
          exact ⟨60 - (i + 1), by omega, i + 1, _, h2, v2, r ++ [x % 65536], 0 + x / 65536, rfl, rfl, by simp [hlr], dig_app hd (dig_one (by omega)), by omega, (by omega), by simp (maxSteps := 1000000) (disch := first | decide | omega | (simp only [go_sem]; first | done | omega)) only [go_sem, Int.reduceToNat, Nat.reduceMul, Nat.reduceAdd, Nat.reduceSub, ↓EU_region, ↓EU_draw, g0], by simp (maxSteps := 1000000) (disch := first | decide | omega | (simp only [go_sem]; first | done | omega)) only [go_sem, Int.reduceToNat, Nat.reduceMul, Nat.reduceAdd, Nat.reduceSub, ↓EU_region, ↓EU_draw, g1], by simp (maxSteps := 1000000) (disch := first | decide | omega | (simp only [go_sem]; first | done | omega)) only [go_sem, Int.reduceToNat, Nat.reduceMul, Nat.reduceAdd, Nat.reduceSub, ↓EU_region, ↓EU_draw, g2], by simp (maxSteps := 1000000) (disch := first | decide | omega | (simp only [go_sem]; first | done | omega)) only [go_sem, Int.reduceToNat, Nat.reduceMul, Nat.reduceAdd, Nat.reduceSub, ↓EU_region, ↓EU_draw], by simp (maxSteps := 1000000) (disch := first | decide | omega | (simp only [go_sem]; first | done | omega)) only [go_sem, Int.reduceToNat, Nat.reduceMul, Nat.reduceAdd, Nat.reduceSub, ↓EU_region, ↓EU_draw], by simp (maxSteps := 1000000) (disch := first | decide | omega | (simp only [go_sem]; first | done | omega)) only [go_sem, Int.reduceToNat, Nat.reduceMul, Nat.reduceAdd, Nat.reduceSub, ↓EU_region, ↓EU_draw], hinv, ho2, hf2, x2⟩
      · have d2 : decide ((i : Int) < b.length) = false := decide_eq_false (by omega)
        have hv' := hv
        rw [List.drop_of_length_le (by omega), List.drop_of_length_le (by omega)] at hv'
        simp only [val, Int.add_zero, Int.sub_zero, Int.mul_zero] at hv'
        have hr := val_range hd
        rw [hlr] at hr
        have c3 : cr = 0 := by
          have hp := pw_pos i
          rcases (show cr = 0 ∨ cr = -1 by omega) with q | q
          · exact q
          · subst q
            omega
        have d3 : decide (cr = 0) = true := decide_eq_true c3
        simp (maxSteps := 1000000) (disch := first | decide | omega | (simp only [go_sem]; first | done | omega)) only [go_sem, Int.reduceToNat, Nat.reduceMul, Nat.reduceAdd, Nat.reduceSub, ↓EU_region, ↓EU_draw, g0, g1, g2, g7, g8, g9, d1, d2, d3]
        subst c3
        refine ⟨_, _, v, r, rfl, trivial, by simp (maxSteps := 1000000) (disch := first | decide | omega | (simp only [go_sem]; first | done | omega)) only [go_sem, Int.reduceToNat, Nat.reduceMul, Nat.reduceAdd, Nat.reduceSub, ↓EU_region, ↓EU_draw, g7], ho', hf', x', hd, ?_, by omega⟩
        simp only [Int.mul_zero, Int.add_zero] at hv'
        exact hv'
  · refine ⟨0, _, h, .slice none 0 1, [], 0, rfl, rfl, rfl, dig_nil, by decide, by omega, by simp (maxSteps := 1000000) (disch := first | decide | omega | (simp only [go_sem]; first | done | omega)) only [go_sem, Int.reduceToNat, Nat.reduceMul, Nat.reduceAdd, Nat.reduceSub, ↓EU_region, ↓EU_draw], by simp (maxSteps := 1000000) (disch := first | decide | omega | (simp only [go_sem]; first | done | omega)) only [go_sem, Int.reduceToNat, Nat.reduceMul, Nat.reduceAdd, Nat.reduceSub, ↓EU_region, ↓EU_draw], by simp (maxSteps := 1000000) (disch := first | decide | omega | (simp only [go_sem]; first | done | omega)) only [go_sem, Int.reduceToNat, Nat.reduceMul, Nat.reduceAdd, Nat.reduceSub, ↓EU_region, ↓EU_draw], by simp (maxSteps := 1000000) (disch := first | decide | omega | (simp only [go_sem]; first | done | omega)) only [go_sem, Int.reduceToNat, Nat.reduceMul, Nat.reduceAdd, Nat.reduceSub, ↓EU_region, ↓EU_draw], by simp (maxSteps := 1000000) (disch := first | decide | omega | (simp only [go_sem]; first | done | omega)) only [go_sem, Int.reduceToNat, Nat.reduceMul, Nat.reduceAdd, Nat.reduceSub, ↓EU_region, ↓EU_draw], by simp (maxSteps := 1000000) (disch := first | decide | omega | (simp only [go_sem]; first | done | omega)) only [go_sem, Int.reduceToNat, Nat.reduceMul, Nat.reduceAdd, Nat.reduceSub, ↓EU_region, ↓EU_draw]; rfl, ?_, OW.nil, Fresh.nil _ _ _, Ext.refl _⟩
    rw [List.drop_zero, List.drop_zero, pw_zero]
    simp [val]
  · omega
  · rintro ⟨q, _⟩ ⟨tm, h', v, r, rfl, rfl, g7, ho', hf', x', hd, hv, hl⟩
    simp (maxSteps := 1000000) (disch := first | decide | omega | (simp only [go_sem]; first | done | omega)) only [go_sem, Int.reduceToNat, Nat.reduceMul, Nat.reduceAdd, Nat.reduceSub, ↓EU_region, ↓EU_draw, g7]
    exact ⟨r, ho'.sl, hf', x', hd, hv, hl⟩
end Go.Proofs.Ytoomhlfogeglcaa.EV
