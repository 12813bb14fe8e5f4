/- Contracts: elder's Up, Read. No condition. -/
import Derived.Test.YtddgcakiceodgaaGreatElder1
namespace Go.Proofs.YtddgcakiceodgaaGreat.EV
open Go Go.Proofs
set_option linter.unusedVariables false
set_option linter.unusedSimpArgs false
set_option maxRecDepth 100000
set_option pp.deepTerms false
set_option pp.deepTerms.threshold 20
/-- what is made of it: the bytes, the error -/
noncomputable def upR (l : List UInt8) : List UInt8 × Int :=
  if (readR l).2.2.2.2 ≠ 0 then ([], (readR l).2.2.2.2) else if (readR l).1 = 3 then (l, 0) else (sealN (encF (readR l).2.1 (readR l).2.2.1 (readR l).2.2.2.1), 0)
/-- the same, as the code goes about it -/
noncomputable def upV (v : Int) (b : List UInt8) : List UInt8 × Int :=
  if b.length < 1 + curL v then ([], 8) else match itemsV v (b.drop (1 + curL v)) with
    | none => ([], 8)
    | some its => if cgood (bN b 0) (if curL v = 0 then -1 else readN ((b.drop 1).take (curL v)) - 1) its then (sealN (encF (bN b 0) (if curL v = 0 then -1 else readN ((b.drop 1).take (curL v)) - 1) its), 0) else ([], 11)
theorem upV_body {v : Int} {p : List UInt8} (hv : v = 1 ∨ v = 2) (h3 : 3 ≤ p.length) : upV v (p.drop 3) = if (bodyV v p).2.2.2 ≠ 0 then ([], (bodyV v p).2.2.2) else (sealN (encF (bodyV v p).1 (bodyV v p).2.1 (bodyV v p).2.2.1), 0) := by
  have e0 : bN (p.drop 3) 0 = bN p 3 := bN_drop p 3 0
  have e1 : (if curL v = 0 then -1 else readN (((p.drop 3).drop 1).take (curL v)) - 1) = curV v p := by
    unfold curV
    rw [List.drop_drop]
  have e2 : (p.drop 3).drop (1 + curL v) = p.drop (4 + curL v) := by rw [List.drop_drop]; congr 1; omega
  have e3 : bN (p.drop (4 + curL v)) 0 = bN p (4 + curL v) := by rw [bN_drop]; rfl
  have e4 : (p.drop (4 + curL v)).drop 1 = p.drop (5 + curL v) := by rw [List.drop_drop]; congr 1; omega
  have hc : ∀ its, cgood (bN p 3 : Int) (curV v p) its = (decide (bN p 3 ≤ 2) && goodF (curV v p) its) := fun its => by
    unfold cgood
    rw [decide_eq_true (by omega : (0 : Int) ≤ (bN p 3 : Int)), Bool.true_and]
    congr 1
    rw [decide_eq_decide]; omega
  unfold upV itemsV
  rw [e0, e1, e2, e3, e4, List.length_drop, List.length_drop]
  unfold bodyV
  generalize curL v = cl at *
  by_cases q : p.length < 5 + cl ∨ p.length ≠ 5 + cl + szV v * bN p (4 + cl)
  · rw [if_pos q]
    by_cases q2 : p.length - 3 < 1 + cl
    · rw [if_pos q2]; rfl
    · rw [if_neg q2, if_pos (show p.length - (4 + cl) < 1 ∨ p.length - (4 + cl) ≠ 1 + szV v * bN p (4 + cl) by omega)]; rfl
  · rw [if_neg q, if_neg (show ¬ p.length - 3 < 1 + cl by omega), if_neg (show ¬ (p.length - (4 + cl) < 1 ∨ p.length - (4 + cl) ≠ 1 + szV v * bN p (4 + cl)) by omega)]
    dsimp only
    rw [hc]
    cases hgd : (decide (bN p 3 ≤ 2) && goodF (curV v p) (decVs v (bN p (4 + cl)) (p.drop (5 + cl)))) with
    | true => rw [if_pos rfl]; rfl
    | false => rw [if_neg (by simp)]; rfl
theorem eclone_ev (l : List UInt8) (s : Value) (h : Heap) (hs : SL byteE 1 h s l) (hl : l.length < 900000) :
    WPo (EF Tryz.prog O0 91 [s] h) fun q => OW byteE 1 q.2 q.1 l ∧ Fresh h.next q.1 ∧ Ext h q.2 := by
  rw [EF_body (O := O0) (by kernel_rfl) Tryz.func91 rfl (rs := [.tmp 2]) rfl (bad := []) (by kernel_rfl) _ _ (m := 8) rfl]
  have hs' := hs
  cases hs with
  | nil =>
    simp (maxSteps := 1000000) (disch := first | decide | omega | (simp only [go_sem]; first | done | omega)) only [go_sem, Int.reduceToNat, Nat.reduceMul, Nat.reduceAdd, Nat.reduceSub, ↓EU_region, ↓EU_draw]
    exact ⟨OW.nil, Fresh.nil _ _ _, Ext.refl _⟩
  | mk b o c l cs hb hc hll hx hcap hq =>
    simp (maxSteps := 1000000) (disch := first | decide | omega | (simp only [go_sem]; first | done | omega)) only [go_sem, Int.reduceToNat, Nat.reduceMul, Nat.reduceAdd, Nat.reduceSub, ↓EU_region, ↓EU_draw]
    repeat refine WPo_ob ?_
    refine append_own (h0 := h) (l := []) (l' := l) fc_ap_37_37 (fun _ => rfl) (by decide) byteE_scal ((Ext.refl h).push _) (OW.lit byteE_len h []) (Fresh.mk _ _ _ (Nat.le_refl _)) (hs'.ext ((Ext.refl h).push _)) (by simp; omega) (by simp; omega) fun v h' ho hf x _ _ => ?_
    simp (maxSteps := 1000000) (disch := first | decide | omega | (simp only [go_sem]; first | done | omega)) only [go_sem, Int.reduceToNat, Nat.reduceMul, Nat.reduceAdd, Nat.reduceSub, ↓EU_region, ↓EU_draw]
    exact ⟨ho, hf, x⟩
theorem upR_open (l : List UInt8) : upR l = if (openR l).2.2 ≠ 0 then ([], (openR l).2.2) else if (openR l).2.1 = 3 then (if (getR l).2.2.2 ≠ 0 then ([], (getR l).2.2.2) else (l, 0)) else if (openR l).2.1 ≠ 1 ∧ (openR l).2.1 ≠ 2 then ([], 10) else upV (openR l).2.1 (openR l).1 := by
  cases ho : openN l with
  | none =>
    have e1 : readR l = (0, 0, 0, [], 9) := by unfold readR; rw [ho]
    have e2 : openR l = ([], 0, 9) := by unfold openR; rw [ho]
    unfold upR
    rw [e1, e2]; rfl
  | some p =>
    cases hb : versionN p with
    | none =>
      have e1 : readR l = (0, 0, 0, [], 8) := by unfold readR; rw [ho]; dsimp only; rw [hb]
      have e2 : openR l = ([], 0, 8) := by unfold openR; rw [ho]; dsimp only; rw [hb]
      unfold upR
      rw [e1, e2]; rfl
    | some v =>
      have e1 : readR l = if v < 1 ∨ 3 < v then (v, 0, 0, [], 10) else (v, bodyV v p) := by unfold readR; rw [ho]; dsimp only; rw [hb]
      have e2 : openR l = (p.drop 3, v, 0) := by unfold openR; rw [ho]; dsimp only; rw [hb]
      have h3 : 3 ≤ p.length := by
        obtain ⟨c, r, rfl, rfl⟩ := versionN_inv hb
        simp only [List.length_cons]; omega
      have e3 : getR l = if v ≠ 3 then (0, 0, [], 10) else bodyR (p.drop 3) := by
        unfold getR
        rw [e2]; rfl
      rw [e2]
      dsimp only
      rw [if_neg (show ¬ (0 : Int) ≠ 0 by simp)]
      unfold upR
      by_cases hv : v < 1 ∨ 3 < v
      · rw [e1, if_pos hv]
        dsimp only
        rw [if_pos (show (10 : Int) ≠ 0 by decide), if_neg (show ¬ v = 3 by omega), if_pos (show v ≠ 1 ∧ v ≠ 2 by omega)]
      · rw [e1, if_neg hv]
        dsimp only
        by_cases h3' : v = 3
        · rw [if_pos h3', if_pos h3', e3, if_neg (show ¬ v ≠ 3 by omega), ← bodyV_3 h3, h3']
        · rw [if_neg h3', if_neg h3', if_neg (show ¬ (v ≠ 1 ∧ v ≠ 2) by omega), upV_body (by omega) h3]
set_option maxHeartbeats 4000000 in
theorem up_ev (l : List UInt8) (s : Value) (h : Heap) (hs : SL byteE 1 h s l) (hl : l.length < 600000) :
    WPo (EF Tryz.prog O0 82 [s] h) fun q => ∃ u, q.1 = .tuple ⟨[u, .int .i64 (upR l).2]⟩ ∧ SL byteE 1 q.2 u (upR l).1 ∧ Ext h q.2 := by
  rw [EF_body (O := O0) (by kernel_rfl) Tryz.func82 rfl (rs := [.tmp 2, .tmp 3]) rfl (bad := []) (by kernel_rfl) _ _ (m := 95) rfl]
  simp (maxSteps := 1000000) (disch := first | decide | omega | (simp only [go_sem]; first | done | omega)) only [go_sem, Int.reduceToNat, Nat.reduceMul, Nat.reduceAdd, Nat.reduceSub, ↓EU_region, ↓EU_draw]
  repeat refine WPo_ob ?_
  refine (open_ev l s h hs (by omega)).mono ?_
  rintro ⟨w, h1⟩ ⟨u, rfl, x1, su, fu⟩
  simp only at x1 su fu
  have hU := upR_open l
  have hol : (openR l).1.length ≤ l.length := by
    unfold openR
    cases ho : openN l with
    | none => exact Nat.zero_le _
    | some b =>
      have := openN_len ho
      dsimp only
      cases hb : versionN b with
      | none => exact Nat.zero_le _
      | some v => dsimp only; rw [List.length_drop]; omega
  revert hU su hol
  generalize (openR l).2.2 = e
  generalize (openR l).2.1 = vv
  generalize (openR l).1 = b
  intro su hU hol
  obtain ⟨au, ku, hu⟩ := su.val
  simp (maxSteps := 1000000) (disch := first | decide | omega | (simp only [go_sem]; first | done | omega)) only [go_sem, Int.reduceToNat, Nat.reduceMul, Nat.reduceAdd, Nat.reduceSub, ↓EU_region, ↓EU_draw]
  ((repeat refine WPo_ob ?_); (first | refine WPo_cond (fun b1 => ?_) (fun b1 => ?_) | refine WPo_gard (fun b1 => ?_) (fun b1 => ?_) | refine WPo_gardT (fun b1 => ?_) (fun b1 => ?_)) <;> (try simp only [Bool.not_eq_true', Bool.not_eq_false'] at b1))
  · have b1' := b1
    simp only [decide_eq_false_iff_not] at b1'
    rw [if_pos b1'] at hU
    rw [hU]
    simp (maxSteps := 1000000) (disch := first | decide | omega | (simp only [go_sem]; first | done | omega)) only [go_sem, Int.reduceToNat, Nat.reduceMul, Nat.reduceAdd, Nat.reduceSub, ↓EU_region, ↓EU_draw, b1]
    exact ⟨_, rfl, SL.nil, x1⟩
  · have b1' := b1
    simp only [decide_eq_true_eq] at b1'
    rw [if_neg (by omega)] at hU
    simp (maxSteps := 1000000) (disch := first | decide | omega | (simp only [go_sem]; first | done | omega)) only [go_sem, Int.reduceToNat, Nat.reduceMul, Nat.reduceAdd, Nat.reduceSub, ↓EU_region, ↓EU_draw, b1]
    ((repeat refine WPo_ob ?_); (first | refine WPo_cond (fun b2 => ?_) (fun b2 => ?_) | refine WPo_gard (fun b2 => ?_) (fun b2 => ?_) | refine WPo_gardT (fun b2 => ?_) (fun b2 => ?_)) <;> (try simp only [Bool.not_eq_true', Bool.not_eq_false'] at b2))
    · have b2' := b2
      simp only [decide_eq_true_eq] at b2'
      rw [if_pos b2'] at hU
      simp (maxSteps := 1000000) (disch := first | decide | omega | (simp only [go_sem]; first | done | omega)) only [go_sem, Int.reduceToNat, Nat.reduceMul, Nat.reduceAdd, Nat.reduceSub, ↓EU_region, ↓EU_draw, b2]
      repeat refine WPo_ob ?_
      refine (cget_ev l s h1 (hs.ext x1) (by omega)).mono ?_
      rintro ⟨v2, h2⟩ ⟨i2, rfl, o2, f2, x2⟩
      simp only at o2 f2 x2
      obtain ⟨a2, c2, rfl⟩ := o2.val
      unfold formV
      by_cases qe : (getR l).2.2.2 = 0
      · rw [if_neg (by omega)] at hU
        rw [hU]
        rw [qe]
        simp (maxSteps := 1000000) (disch := first | decide | omega | (simp only [go_sem]; first | done | omega)) only [go_sem, Int.reduceToNat, Nat.reduceMul, Nat.reduceAdd, Nat.reduceSub, ↓EU_region, ↓EU_draw, dec_t, dec_f]
        repeat refine WPo_ob ?_
        refine (eclone_ev l s _ (hs.ext (x1.trans (x2.push _))) (by omega)).mono ?_
        rintro ⟨v3, h3⟩ ⟨o3, f3, x3⟩
        simp only at o3 f3 x3
        simp (maxSteps := 1000000) (disch := first | decide | omega | (simp only [go_sem]; first | done | omega)) only [go_sem, Int.reduceToNat, Nat.reduceMul, Nat.reduceAdd, Nat.reduceSub, ↓EU_region, ↓EU_draw]
        exact ⟨_, rfl, o3.sl, (x1.trans (x2.push _)).trans x3⟩
      · rw [if_pos qe] at hU
        rw [hU]
        have hd : decide ((getR l).2.2.2 = 0) = false := decide_eq_false qe
        simp (maxSteps := 1000000) (disch := first | decide | omega | (simp only [go_sem]; first | done | omega)) only [go_sem, Int.reduceToNat, Nat.reduceMul, Nat.reduceAdd, Nat.reduceSub, ↓EU_region, ↓EU_draw, hd]
        exact ⟨_, rfl, SL.nil, x1.trans (x2.push _)⟩
    · have b2' := b2
      simp only [decide_eq_false_iff_not] at b2'
      rw [if_neg b2'] at hU
      subst hu
      by_cases hv1 : vv = 1
      · subst hv1
        rw [if_neg (by omega)] at hU
        have hU : upR l = if b.length < 1 then (([], 8) : List UInt8 × Int) else match itemsV 1 (b.drop 1) with
          | none => ([], 8)
          | some its => if cgood (bN b 0) (-1) its then (sealN (encF (bN b 0) (-1) its), 0) else ([], 11) := hU
        by_cases hlen : b.length < 1
        · have hd1 : decide (1 ≤ (b.length : Int)) = false := decide_eq_false (by omega)
          rw [if_pos hlen] at hU
          rw [hU]
          simp (maxSteps := 1000000) (disch := first | decide | omega | (simp only [go_sem]; first | done | omega)) only [go_sem, Int.reduceToNat, Nat.reduceMul, Nat.reduceAdd, Nat.reduceSub, ↓EU_region, ↓EU_draw, dec_t, dec_f, b2, hd1]
          exact ⟨_, rfl, SL.nil, x1.push _⟩
        · have hd1 : decide (1 ≤ (b.length : Int)) = true := decide_eq_true (by omega)
          rw [if_neg hlen] at hU
          obtain ⟨B, o, c, e, hB, r0⟩ := rd_byte su (i := 0) (by omega)
          cases e
          rw [Nat.add_zero] at r0
          have hw0 : wrapF .i64 (bN b 0 : Int) = bN b 0 := wrap64 (by have := bN_lt b 0; omega)
          have su' := su.ext ((Ext.refl h1).push (.cells [.int .i64 (-1), .slice none 0 1] 0))
          obtain ⟨u1, hu1, su1, bu1⟩ := cut_from fc_sl_37 su' .i64 1 1 rfl (by omega)
          simp (maxSteps := 1000000) (disch := first | decide | omega | (simp only [go_sem]; first | done | omega)) only [go_sem, Int.reduceToNat, Nat.reduceMul, Nat.reduceAdd, Nat.reduceSub, ↓EU_region, ↓EU_draw, dec_t, dec_f, b2, hd1, r0, hw0, hu1]
          repeat refine WPo_ob ?_
          refine (items1_ev _ u1 _ su1 (by rw [List.length_drop]; omega)).mono ?_
          rintro ⟨r4, h4⟩
          cases hit : itemsV 1 (b.drop 1) with
          | none =>
            intro hr
            rw [hit] at hU
            simp only at hr
            obtain ⟨hr, x4⟩ := hr
            have hc4 : h4.get h1.next = .cells [.int .i64 (-1), .slice none 0 1] 0 := by rw [x4.old _ (by rw [next_push]; omega)]; exact get_push_new _ _
            have hn4 := x4.le
            rw [next_push] at hn4
            subst hr
            rw [hU]
            simp (maxSteps := 1000000) (disch := first | decide | omega | (simp only [go_sem]; first | done | omega)) only [go_sem, Int.reduceToNat, Nat.reduceMul, Nat.reduceAdd, Nat.reduceSub, ↓EU_region, ↓EU_draw, dec_t, dec_f, hc4]
            exact ⟨_, rfl, SL.nil, (x1.trans ((Ext.push (Ext.refl h1) _).trans x4)).set _ _ x1.le⟩
          | some its =>
            intro hr
            rw [hit] at hU
            obtain ⟨v4, hr, o4, f4, x4⟩ := hr
            simp only at hr o4 x4
            subst hr
            have hc4 : h4.get h1.next = .cells [.int .i64 (-1), .slice none 0 1] 0 := by rw [x4.old _ (by rw [next_push]; omega)]; exact get_push_new _ _
            have hn4 := x4.le
            rw [next_push] at hn4 f4
            have o4' := o4.mod (Mod.set (S := fun j => j = h1.next) (Mod.refl _ _) h1.next (.cells [.int .i64 (-1), v4] 0) (fun _ => rfl)) (fun j hj q => by have := f4 j hj; omega)
            have hlit : its.length < 800000 := by
              unfold itemsV at hit
              split at hit
              · cases hit
              · cases hit
                rw [decVs_len]
                have := bN_lt (b.drop 1) 0
                omega
            have pc := cput_ev (bN b 0) (-1) its v4 _ o4'.sl hlit
            obtain ⟨a4, c4, rfl⟩ := o4.val
            unfold formV at pc
            simp (maxSteps := 1000000) (disch := first | decide | omega | (simp only [go_sem]; first | done | omega)) only [go_sem, Int.reduceToNat, Nat.reduceMul, Nat.reduceAdd, Nat.reduceSub, ↓EU_region, ↓EU_draw, dec_t, dec_f, hc4]
            repeat refine WPo_ob ?_
            refine pc.mono ?_
            rintro ⟨v5, h5⟩ ⟨x5, k1, k2⟩
            simp only at x5 k1 k2
            have y5 : Ext h h5 := ((x1.trans ((Ext.push (Ext.refl h1) _).trans x4)).set _ _ x1.le).trans x5
            dsimp only at hU
            cases hcg : cgood (bN b 0) (-1) its with
            | false =>
              rw [hcg, if_neg (by simp)] at hU
              rw [hU, k1 hcg]
              simp (maxSteps := 1000000) (disch := first | decide | omega | (simp only [go_sem]; first | done | omega)) only [go_sem, Int.reduceToNat, Nat.reduceMul, Nat.reduceAdd, Nat.reduceSub, ↓EU_region, ↓EU_draw, dec_t, dec_f]
              exact ⟨_, rfl, SL.nil, y5⟩
            | true =>
              obtain ⟨u5, rfl, ou5, fu5⟩ := k2 hcg
              rw [hcg, if_pos rfl] at hU
              rw [hU]
              simp (maxSteps := 1000000) (disch := first | decide | omega | (simp only [go_sem]; first | done | omega)) only [go_sem, Int.reduceToNat, Nat.reduceMul, Nat.reduceAdd, Nat.reduceSub, ↓EU_region, ↓EU_draw, dec_t, dec_f]
              exact ⟨_, rfl, ou5.sl, y5⟩
      · by_cases hv2 : vv = 2
        · subst hv2
          rw [if_neg (by omega)] at hU
          have hU : upR l = if b.length < 3 then (([], 8) : List UInt8 × Int) else match itemsV 2 (b.drop 3) with
            | none => ([], 8)
            | some its => if cgood (bN b 0) (readN ((b.drop 1).take 2) - 1) its then (sealN (encF (bN b 0) (readN ((b.drop 1).take 2) - 1) its), 0) else ([], 11) := hU
          by_cases hlen : b.length < 1
          · have hd1 : decide (1 ≤ (b.length : Int)) = false := decide_eq_false (by omega)
            rw [if_pos (by omega)] at hU
            rw [hU]
            simp (maxSteps := 1000000) (disch := first | decide | omega | (simp only [go_sem]; first | done | omega)) only [go_sem, Int.reduceToNat, Nat.reduceMul, Nat.reduceAdd, Nat.reduceSub, ↓EU_region, ↓EU_draw, dec_t, dec_f, b2, hd1]
            exact ⟨_, rfl, SL.nil, x1.push _⟩
          · have hd1 : decide (1 ≤ (b.length : Int)) = true := decide_eq_true (by omega)
            by_cases hlen3 : b.length < 3
            · have hd3 : decide (3 ≤ (b.length : Int)) = false := decide_eq_false (by omega)
              rw [if_pos (by omega)] at hU
              rw [hU]
              simp (maxSteps := 1000000) (disch := first | decide | omega | (simp only [go_sem]; first | done | omega)) only [go_sem, Int.reduceToNat, Nat.reduceMul, Nat.reduceAdd, Nat.reduceSub, ↓EU_region, ↓EU_draw, dec_t, dec_f, b2, hd1, hd3]
              exact ⟨_, rfl, SL.nil, x1.push _⟩
            · have hd3 : decide (3 ≤ (b.length : Int)) = true := decide_eq_true (by omega)
              rw [if_neg hlen3] at hU
              obtain ⟨B, o, c, e, hB, r0⟩ := rd_byte su (i := 0) (by omega)
              cases e
              rw [Nat.add_zero] at r0
              have hw0 : wrapF .i64 (bN b 0 : Int) = bN b 0 := wrap64 (by have := bN_lt b 0; omega)
              have su' := su.ext ((Ext.refl h1).push (.cells [.int .i64 (-1), .slice none 0 1] 0))
              obtain ⟨u1, hu1, su1, bu1⟩ := cut_from fc_sl_37 su' .i64 1 1 rfl (by omega)
              simp (maxSteps := 1000000) (disch := first | decide | omega | (simp only [go_sem]; first | done | omega)) only [go_sem, Int.reduceToNat, Nat.reduceMul, Nat.reduceAdd, Nat.reduceSub, ↓EU_region, ↓EU_draw, dec_t, dec_f, b2, hd1, hd3, r0, hw0, hu1]
              repeat refine WPo_ob ?_
              refine (read_ev _ u1 2 _ su1 (by rw [List.length_drop]; omega) (by decide) (by rw [List.length_drop]; omega)).mono ?_
              rintro _ ⟨u2, rfl, su2, bu2⟩
              rw [List.drop_drop] at su2
              have hcp := readN_pos (l := (b.drop 1).take 2) (by rw [List.length_take]; omega)
              have hcw : wrapF .i64 (readN ((b.drop 1).take 2) - 1) = readN ((b.drop 1).take 2) - 1 := wrap64 (by omega)
              generalize hcu : readN ((b.drop 1).take 2) - 1 = cur at *
              simp (maxSteps := 1000000) (disch := first | decide | omega | (simp only [go_sem]; first | done | omega)) only [go_sem, Int.reduceToNat, Nat.reduceMul, Nat.reduceAdd, Nat.reduceSub, ↓EU_region, ↓EU_draw, dec_t, dec_f, hcu, hcw]
              repeat refine WPo_ob ?_
              have su3 : SL byteE 1 (h1.push (.cells [.int .i64 cur, .slice none 0 1] 0)) u2 (b.drop 3) := su2.modB (S := fun j => h1.next ≤ j) ⟨by rw [next_push, next_push]; exact Nat.le_refl _, fun j hj hs => by rw [get_push_old _ (by omega), get_push_old _ (by omega)]⟩ (fun j hj => by have := su.lt (bu1 j (bu2 j hj)); omega)
              refine (items2_ev _ u2 _ su3 (by rw [List.length_drop]; omega)).mono ?_
              rintro ⟨r4, h4⟩
              cases hit : itemsV 2 (b.drop 3) with
              | none =>
                intro hr
                rw [hit] at hU
                simp only at hr
                obtain ⟨hr, x4⟩ := hr
                have hc4 : h4.get h1.next = .cells [.int .i64 cur, .slice none 0 1] 0 := by rw [x4.old _ (by rw [next_push]; omega)]; exact get_push_new _ _
                have hn4 := x4.le
                rw [next_push] at hn4
                subst hr
                rw [hU]
                simp (maxSteps := 1000000) (disch := first | decide | omega | (simp only [go_sem]; first | done | omega)) only [go_sem, Int.reduceToNat, Nat.reduceMul, Nat.reduceAdd, Nat.reduceSub, ↓EU_region, ↓EU_draw, dec_t, dec_f, hc4]
                exact ⟨_, rfl, SL.nil, (x1.trans ((Ext.push (Ext.refl h1) _).trans x4)).set _ _ x1.le⟩
              | some its =>
                intro hr
                rw [hit] at hU
                obtain ⟨v4, hr, o4, f4, x4⟩ := hr
                simp only at hr o4 x4
                subst hr
                have hc4 : h4.get h1.next = .cells [.int .i64 cur, .slice none 0 1] 0 := by rw [x4.old _ (by rw [next_push]; omega)]; exact get_push_new _ _
                have hn4 := x4.le
                rw [next_push] at hn4 f4
                have o4' := o4.mod (Mod.set (S := fun j => j = h1.next) (Mod.refl _ _) h1.next (.cells [.int .i64 cur, v4] 0) (fun _ => rfl)) (fun j hj q => by have := f4 j hj; omega)
                have hlit : its.length < 800000 := by
                  unfold itemsV at hit
                  split at hit
                  · cases hit
                  · cases hit
                    rw [decVs_len]
                    have := bN_lt (b.drop 3) 0
                    omega
                have pc := cput_ev (bN b 0) cur its v4 _ o4'.sl hlit
                obtain ⟨a4, c4, rfl⟩ := o4.val
                unfold formV at pc
                simp (maxSteps := 1000000) (disch := first | decide | omega | (simp only [go_sem]; first | done | omega)) only [go_sem, Int.reduceToNat, Nat.reduceMul, Nat.reduceAdd, Nat.reduceSub, ↓EU_region, ↓EU_draw, dec_t, dec_f, hc4]
                repeat refine WPo_ob ?_
                refine pc.mono ?_
                rintro ⟨v5, h5⟩ ⟨x5, k1, k2⟩
                simp only at x5 k1 k2
                have y5 : Ext h h5 := ((x1.trans ((Ext.push (Ext.refl h1) _).trans x4)).set _ _ x1.le).trans x5
                dsimp only at hU
                cases hcg : cgood (bN b 0) cur its with
                | false =>
                  rw [hcg, if_neg (by simp)] at hU
                  rw [hU, k1 hcg]
                  simp (maxSteps := 1000000) (disch := first | decide | omega | (simp only [go_sem]; first | done | omega)) only [go_sem, Int.reduceToNat, Nat.reduceMul, Nat.reduceAdd, Nat.reduceSub, ↓EU_region, ↓EU_draw, dec_t, dec_f]
                  exact ⟨_, rfl, SL.nil, y5⟩
                | true =>
                  obtain ⟨u5, rfl, ou5, fu5⟩ := k2 hcg
                  rw [hcg, if_pos rfl] at hU
                  rw [hU]
                  simp (maxSteps := 1000000) (disch := first | decide | omega | (simp only [go_sem]; first | done | omega)) only [go_sem, Int.reduceToNat, Nat.reduceMul, Nat.reduceAdd, Nat.reduceSub, ↓EU_region, ↓EU_draw, dec_t, dec_f]
                  exact ⟨_, rfl, ou5.sl, y5⟩
        · rw [if_pos ⟨hv1, hv2⟩] at hU
          rw [hU]
          have hd1 : decide (vv = 1) = false := decide_eq_false hv1
          have hd2 : decide (vv = 2) = false := decide_eq_false hv2
          simp (maxSteps := 1000000) (disch := first | decide | omega | (simp only [go_sem]; first | done | omega)) only [go_sem, Int.reduceToNat, Nat.reduceMul, Nat.reduceAdd, Nat.reduceSub, ↓EU_region, ↓EU_draw, b2, hd1, hd2]
          exact ⟨_, rfl, SL.nil, x1⟩
end Go.Proofs.YtddgcakiceodgaaGreat.EV
