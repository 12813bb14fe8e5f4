/- WholeSays, plainly. No condition. -/
import Derived.Test.YthaacidfpcljfaaBig9
namespace Go.Proofs.Ythaacidfpcljfaa.EV
open Go Go.Proofs
set_option linter.unusedVariables false
set_option linter.unusedSimpArgs false
set_option maxRecDepth 100000
set_option pp.deepTerms false
set_option pp.deepTerms.threshold 20
theorem i64_wf {z : Int} (h : (Lit.int .i64 z).wf = true) : -9223372036854775808 ≤ z ∧ z < 9223372036854775808 := by
  have : (Lit.int .i64 z).wf = (decide (IntKind.i64.min ≤ z) && decide (z ≤ IntKind.i64.max)) := rfl
  rw [this] at h
  simp only [Bool.and_eq_true, decide_eq_true_eq] at h
  have e1 : IntKind.i64.min = -9223372036854775808 := rfl
  have e2 : IntKind.i64.max = 9223372036854775807 := rfl
  omega
set_option maxHeartbeats 16000000 in
theorem law_WholeSays (h : Heap) (a : Int) (wa : (Lit.int .i64 a).wf = true) (b : Int) (wb : (Lit.int .i64 b).wf = true) (c : Int) (wc : (Lit.int .i64 c).wf = true) (d : Int) (wd : (Lit.int .i64 d).wf = true) (sl : Value) (ll : List Int) (hl : SL (intE .i64) 1 h sl ll) (wl : ∀ z ∈ ll, (Lit.int .i64 z).wf = true) :
    WPo (EF Try.prog O0 8 [.int .i64 a, .int .i64 b, .int .i64 c, .int .i64 d, sl] h) fun q => q.1 = .bool true := by
  have ha := i64_wf wa
  have hb := i64_wf wb
  have hc := i64_wf wc
  have hd := i64_wf wd
  have hwl := fun z hz => i64_wf (wl z hz)
  have hPm := mul_range63 ha hb
  rw [EF_body (O := O0) (by kernel_rfl) Try.func8 rfl (rs := [.tmp 10]) rfl (bad := [9, 16]) (by kernel_rfl) _ _ (m := 171) rfl]
  obtain ⟨al, kl, hv⟩ := hl.val
  subst hv
  simp (maxSteps := 1000000) (disch := first | decide | omega | (simp only [go_sem]; first | done | omega)) only [go_sem, Int.reduceToNat, Nat.reduceMul, Nat.reduceAdd, Nat.reduceSub, ↓EU_region, ↓EU_draw]
  repeat refine WPo_ob ?_
  refine (awake_pu h).bind fun h1 x1 => ?_
  simp (maxSteps := 1000000) (disch := first | decide | omega | (simp only [go_sem]; first | done | omega)) only [go_sem, Int.reduceToNat, Nat.reduceMul, Nat.reduceAdd, Nat.reduceSub, ↓EU_region, ↓EU_draw]
  ((repeat refine WPo_ob ?_); (first | refine WPo_cond (fun b1 => ?_) (fun b1 => ?_) | refine WPo_gard (fun b1 => ?_) (fun b1 => ?_) | refine WPo_gardT (fun b1 => ?_) (fun b1 => ?_)) <;> (try simp only [Bool.not_eq_true', Bool.not_eq_false'] at b1))
  · simp (maxSteps := 1000000) (disch := first | decide | omega | (simp only [go_sem]; first | done | omega)) only [go_sem, Int.reduceToNat, Nat.reduceMul, Nat.reduceAdd, Nat.reduceSub, ↓EU_region, ↓EU_draw, b1]
  · have b1' := b1
    simp only [decide_eq_false_iff_not] at b1'
    simp (maxSteps := 1000000) (disch := first | decide | omega | (simp only [go_sem]; first | done | omega)) only [go_sem, Int.reduceToNat, Nat.reduceMul, Nat.reduceAdd, Nat.reduceSub, ↓EU_region, ↓EU_draw, b1]
    repeat refine WPo_ob ?_
    refine (rof_ev a h1 ha).mono ?_
    rintro ⟨v, h2⟩ ⟨n2, l2, s2, rfl, o2, d2, k2, e2, x2⟩
    simp only at o2 x2
    unfold bigV
    obtain ⟨p2, q2, rfl⟩ := o2.val
    simp (maxSteps := 1000000) (disch := first | decide | omega | (simp only [go_sem]; first | done | omega)) only [go_sem, Int.reduceToNat, Nat.reduceMul, Nat.reduceAdd, Nat.reduceSub, ↓EU_region, ↓EU_draw]
    repeat refine WPo_ob ?_
    refine (rof_ev b h2 hb).mono ?_
    rintro ⟨v, h3⟩ ⟨n3, l3, s3, rfl, o3, d3, k3, e3, x3⟩
    simp only at o3 x3
    try unfold bigV
    obtain ⟨p3, q3, rfl⟩ := o3.val
    simp (maxSteps := 1000000) (disch := first | decide | omega | (simp only [go_sem]; first | done | omega)) only [go_sem, Int.reduceToNat, Nat.reduceMul, Nat.reduceAdd, Nat.reduceSub, ↓EU_region, ↓EU_draw]
    obtain ⟨h4, hh4⟩ : ∃ z, (((h3.push (.cells [.bool false, .slice none 0 1] 0)).push (.cells [.bool false, .slice none 0 1] 0)).set h3.next (.cells [.bool n2, .slice p2 l2.length q2] 0)).set (h3.next + 1) (.cells [.bool n3, .slice p3 l3.length q3] 0) = z := ⟨_, rfl⟩
    rw [hh4]
    have x4 : Ext h3 h4 := by rw [← hh4]; repeat (first | exact Ext.refl _ | assumption | refine Ext.push ?_ _ | refine Ext.set ?_ _ _ (by first | omega | (simp only [next_push, next_set]; omega)))
    have P4 : h4.get h3.next = .cells [.bool n2, .slice p2 l2.length q2] 0 := by rw [← hh4]; simp (maxSteps := 1000000) (disch := first | decide | omega | (simp only [go_sem]; first | done | omega)) only [go_sem, Int.reduceToNat, Nat.reduceMul, Nat.reduceAdd, Nat.reduceSub, ↓EU_region, ↓EU_draw]
    have Q4 : h4.get (h3.next + 1) = .cells [.bool n3, .slice p3 l3.length q3] 0 := by rw [← hh4]; simp (maxSteps := 1000000) (disch := first | decide | omega | (simp only [go_sem]; first | done | omega)) only [go_sem, Int.reduceToNat, Nat.reduceMul, Nat.reduceAdd, Nat.reduceSub, ↓EU_region, ↓EU_draw]
    have hn4 : h4.next = h3.next + 2 := by rw [← hh4]; simp (maxSteps := 1000000) (disch := first | decide | omega | (simp only [go_sem]; first | done | omega)) only [go_sem, Int.reduceToNat, Nat.reduceMul, Nat.reduceAdd, Nat.reduceSub, ↓EU_region, ↓EU_draw]
    clear hh4
    have u2 := (o2.ext x3).ext x4
    have u3 := o3.ext x4
    have z4 := Ext.refl h4
    have y4 : Ext h h4 := ((x1.trans x2).trans x3).trans x4
    have ds : ∀ x : Int, decide (x = x) = true := fun x => decide_eq_true rfl
    have bs : ∀ x : Bool, (x == x) = true := fun x => by cases x <;> rfl
    have hp : Pu (EF Try.prog O0 13 [.int .i64 a, .int .i64 b] h4) h4 (fitT (a + b)) := wadd2_ev a b h4 ha hb
    unfold fitT at hp
    repeat refine WPo_ob ?_
    refine hp.bind fun h5 x5 => ?_
    clear hp
    have z5 := z4.trans x5
    have y5 := y4.trans x5
    have P5 := P4; rw [← z5.old _ (by omega)] at P5
    have Q5 := Q4; rw [← z5.old _ (by omega)] at Q5
    simp (maxSteps := 1000000) (disch := first | decide | omega | (simp only [go_sem]; first | done | omega)) only [go_sem, Int.reduceToNat, Nat.reduceMul, Nat.reduceAdd, Nat.reduceSub, ↓EU_region, ↓EU_draw, P4, Q4, P5, Q5]
    have hp := radd_ev n2 n3 l2 l3 _ _ h5 (u2.ext z5) (u3.ext z5) d2 d3 (by omega) (by omega)
    try unfold bigV at hp
    repeat refine WPo_ob ?_
    refine hp.mono ?_
    clear hp
    rintro ⟨v, h6⟩ ⟨n6, l6, s6, rfl, o6, d6, e6, k6, x6⟩
    simp only at o6 x6
    have z6 := z5.trans x6
    have y6 := y5.trans x6
    have P6 := P4; rw [← z6.old _ (by omega)] at P6
    have Q6 := Q4; rw [← z6.old _ (by omega)] at Q6
    obtain ⟨p6, q6, rfl⟩ := o6.val
    simp (maxSteps := 1000000) (disch := first | decide | omega | (simp only [go_sem]; first | done | omega)) only [go_sem, Int.reduceToNat, Nat.reduceMul, Nat.reduceAdd, Nat.reduceSub, ↓EU_region, ↓EU_draw, P4, Q4, P5, Q5, P6, Q6]
    have s6 : sv n6 l6 = a + b := by rw [e6, e2, e3]
    have hf := rfits_ev n6 l6 _ h6 (o6.ext (Ext.refl _)) d6 (by omega)
    rw [s6] at hf
    unfold bigV fitT at hf
    repeat refine WPo_ob ?_
    refine hf.bind fun h7 x7 => ?_
    clear hf
    have z7 := z6.trans x7
    have y7 := y6.trans x7
    have P7 := P4; rw [← z7.old _ (by omega)] at P7
    have Q7 := Q4; rw [← z7.old _ (by omega)] at Q7
    simp (maxSteps := 1000000) (disch := first | decide | omega | (simp only [go_sem]; first | done | omega)) only [go_sem, Int.reduceToNat, Nat.reduceMul, Nat.reduceAdd, Nat.reduceSub, ↓EU_region, ↓EU_draw, P4, Q4, P5, Q5, P6, Q6, P7, Q7]
    have hp : Pu (EF Try.prog O0 14 [.int .i64 a, .int .i64 b] h7) h7 (fitT (a - b)) := wsub_ev a b h7 ha hb
    unfold fitT at hp
    repeat refine WPo_ob ?_
    refine hp.bind fun h8 x8 => ?_
    clear hp
    have z8 := z7.trans x8
    have y8 := y7.trans x8
    have P8 := P4; rw [← z8.old _ (by omega)] at P8
    have Q8 := Q4; rw [← z8.old _ (by omega)] at Q8
    simp (maxSteps := 1000000) (disch := first | decide | omega | (simp only [go_sem]; first | done | omega)) only [go_sem, Int.reduceToNat, Nat.reduceMul, Nat.reduceAdd, Nat.reduceSub, ↓EU_region, ↓EU_draw, P4, Q4, P5, Q5, P6, Q6, P7, Q7, P8, Q8]
    rw [EU_bad _ _ rfl, EC_tab (tab := [(false, (some (0, 1))), (false, none), (true, none), (true, none), (true, none), (false, none), (false, none), (false, none), (false, none), (false, none)]) (by kernel_rfl)]
    simp (maxSteps := 1000000) (disch := first | decide | omega | (simp only [go_sem]; first | done | omega)) only [go_sem, Int.reduceToNat, Nat.reduceMul, Nat.reduceAdd, Nat.reduceSub, ↓EU_region, ↓EU_draw, P4, Q4, P5, Q5, P6, Q6, P7, Q7, P8, Q8]
    have hp := rturn_ev n3 l3 (.slice p3 l3.length q3) h8 (u3.ext z8)
    unfold bigV at hp
    repeat refine WPo_ob ?_
    refine hp.bind fun h9 x9 => ?_
    clear hp
    have z9 := z8.trans x9
    have y9 := y8.trans x9
    have P9 := P4; rw [← z9.old _ (by omega)] at P9
    have Q9 := Q4; rw [← z9.old _ (by omega)] at Q9
    simp (maxSteps := 1000000) (disch := first | decide | omega | (simp only [go_sem]; first | done | omega)) only [go_sem, Int.reduceToNat, Nat.reduceMul, Nat.reduceAdd, Nat.reduceSub, ↓EU_region, ↓EU_draw, P4, Q4, P5, Q5, P6, Q6, P7, Q7, P8, Q8, P9, Q9]
    have hp := radd_ev n2 (!n3) l2 l3 _ _ h9 (u2.ext z9) (u3.ext z9) d2 d3 (by omega) (by omega)
    try unfold bigV at hp
    repeat refine WPo_ob ?_
    refine hp.mono ?_
    clear hp
    rintro ⟨v, h10⟩ ⟨n10, l10, s10, rfl, o10, d10, e10, k10, x10⟩
    simp only at o10 x10
    have z10 := z9.trans x10
    have y10 := y9.trans x10
    have P10 := P4; rw [← z10.old _ (by omega)] at P10
    have Q10 := Q4; rw [← z10.old _ (by omega)] at Q10
    obtain ⟨p10, q10, rfl⟩ := o10.val
    simp (maxSteps := 1000000) (disch := first | decide | omega | (simp only [go_sem]; first | done | omega)) only [go_sem, Int.reduceToNat, Nat.reduceMul, Nat.reduceAdd, Nat.reduceSub, ↓EU_region, ↓EU_draw, P4, Q4, P5, Q5, P6, Q6, P7, Q7, P8, Q8, P9, Q9, P10, Q10]
    have s10 : sv n10 l10 = a - b := by
      rw [e10, e2]
      have : sv (!n3) l3 = -sv n3 l3 := by unfold sv; cases n3 <;> simp
      rw [this, e3]
      omega
    have hf := rfits_ev n10 l10 _ h10 (o10.ext (Ext.refl _)) d10 (by omega)
    rw [s10] at hf
    unfold bigV fitT at hf
    repeat refine WPo_ob ?_
    refine hf.bind fun h11 x11 => ?_
    clear hf
    have z11 := z10.trans x11
    have y11 := y10.trans x11
    have P11 := P4; rw [← z11.old _ (by omega)] at P11
    have Q11 := Q4; rw [← z11.old _ (by omega)] at Q11
    have hv2 : veqL [.bool n2, .slice p2 l2.length q2] [.bool n2, .slice p2 l2.length q2] = true := by
      rw [veqL_c _ _ _ _ (by simp) (by simp), veq_bool, veqL_c _ _ _ _ (by simp) (by simp), u2.veq, veqL_n]; rfl
    have hv3 : veqL [.bool n3, .slice p3 l3.length q3] [.bool n3, .slice p3 l3.length q3] = true := by
      rw [veqL_c _ _ _ _ (by simp) (by simp), veq_bool, veqL_c _ _ _ _ (by simp) (by simp), u3.veq, veqL_n]; rfl
    simp (maxSteps := 1000000) (disch := first | decide | omega | (simp only [go_sem]; first | done | omega)) only [go_sem, Int.reduceToNat, Nat.reduceMul, Nat.reduceAdd, Nat.reduceSub, ↓EU_region, ↓EU_draw, P4, Q4, P5, Q5, P6, Q6, P7, Q7, P8, Q8, P9, Q9, P10, Q10, P11, Q11, hv2, hv3]
    have hp : Pu (EF Try.prog O0 15 [.int .i64 a, .int .i64 b] h11) h11 (fitT (a * b)) := wmul2_ev a b h11 ha hb
    unfold fitT at hp
    repeat refine WPo_ob ?_
    refine hp.bind fun h12 x12 => ?_
    clear hp
    have z12 := z11.trans x12
    have y12 := y11.trans x12
    have P12 := P4; rw [← z12.old _ (by omega)] at P12
    have Q12 := Q4; rw [← z12.old _ (by omega)] at Q12
    simp (maxSteps := 1000000) (disch := first | decide | omega | (simp only [go_sem]; first | done | omega)) only [go_sem, Int.reduceToNat, Nat.reduceMul, Nat.reduceAdd, Nat.reduceSub, ↓EU_region, ↓EU_draw, P4, Q4, P5, Q5, P6, Q6, P7, Q7, P8, Q8, P9, Q9, P10, Q10, P11, Q11, P12, Q12]
    obtain ⟨nm, enm⟩ : ∃ z, (n2 != n3) = z := ⟨_, rfl⟩
    have hp := rmul_ev n2 n3 l2 l3 _ _ h12 (u2.ext z12) (u3.ext z12) d2 d3 (by omega) (by omega)
    rw [enm] at hp
    unfold bigV at hp
    repeat refine WPo_ob ?_
    refine hp.mono ?_
    clear hp
    rintro ⟨v, h13⟩ ⟨l13, s13, rfl, o13, d13, v13, k13, x13⟩
    simp only at o13 x13
    have z13 := z12.trans x13
    have y13 := y12.trans x13
    have P13 := P4; rw [← z13.old _ (by omega)] at P13
    have Q13 := Q4; rw [← z13.old _ (by omega)] at Q13
    obtain ⟨p13, q13, rfl⟩ := o13.val
    simp (maxSteps := 1000000) (disch := first | decide | omega | (simp only [go_sem]; first | done | omega)) only [go_sem, Int.reduceToNat, Nat.reduceMul, Nat.reduceAdd, Nat.reduceSub, ↓EU_region, ↓EU_draw, P5, Q5, P6, Q6, P7, Q7, P8, Q8, P9, Q9, P10, Q10, P11, Q11, P12, Q12, P13, Q13]
    have s13 : sv nm l13 = a * b := by rw [← enm, ← e2, ← e3]; exact sv_mul v13
    have n13 := nm
    have hf := rfits_ev nm l13 _ h13 o13 d13 (by omega)
    rw [s13] at hf
    unfold bigV fitT at hf
    repeat refine WPo_ob ?_
    refine hf.bind fun h14 x14 => ?_
    clear hf
    have z14 := z13.trans x14
    have y14 := y13.trans x14
    have P14 := P4; rw [← z14.old _ (by omega)] at P14
    have Q14 := Q4; rw [← z14.old _ (by omega)] at Q14
    have hmd := muldiv_ev a b c h14 ha hb hc
    simp (maxSteps := 1000000) (disch := first | decide | omega | (simp only [go_sem]; first | done | omega)) only [go_sem, Int.reduceToNat, Nat.reduceMul, Nat.reduceAdd, Nat.reduceSub, ↓EU_region, ↓EU_draw, P6, Q6, P7, Q7, P8, Q8, P9, Q9, P10, Q10, P11, Q11, P12, Q12, P13, Q13, P14, Q14, hmd]
    have hp : Pu (EF Try.prog O0 25 [.int .i64 a, .int .i64 b, .int .i64 c] h14) h14 (.tuple ⟨[.int .i64 (mdR a b c).1, .bool (mdR a b c).2]⟩) := rmuldiv_ev a b c h14 ha hb hc
    repeat refine WPo_ob ?_
    refine hp.bind fun h15 x15 => ?_
    clear hp
    have z15 := z14.trans x15
    have y15 := y14.trans x15
    have P15 := P4; rw [← z15.old _ (by omega)] at P15
    have Q15 := Q4; rw [← z15.old _ (by omega)] at Q15
    simp (maxSteps := 1000000) (disch := first | decide | omega | (simp only [go_sem]; first | done | omega)) only [go_sem, Int.reduceToNat, Nat.reduceMul, Nat.reduceAdd, Nat.reduceSub, ↓EU_region, ↓EU_draw, P7, Q7, P8, Q8, P9, Q9, P10, Q10, P11, Q11, P12, Q12, P13, Q13, P14, Q14, P15, Q15]
    have hp : Pu (EF Try.prog O0 11 [.slice al ll.length kl] h15) h15 (fitT (sumZ ll)) := wsum_ev ll _ h15 (hl.ext y15) (by omega) hwl
    unfold fitT at hp
    repeat refine WPo_ob ?_
    refine hp.bind fun h16 x16 => ?_
    clear hp
    have z16 := z15.trans x16
    have y16 := y15.trans x16
    have P16 := P4; rw [← z16.old _ (by omega)] at P16
    have Q16 := Q4; rw [← z16.old _ (by omega)] at Q16
    simp (maxSteps := 1000000) (disch := first | decide | omega | (simp only [go_sem]; first | done | omega)) only [go_sem, Int.reduceToNat, Nat.reduceMul, Nat.reduceAdd, Nat.reduceSub, ↓EU_region, ↓EU_draw, P8, Q8, P9, Q9, P10, Q10, P11, Q11, P12, Q12, P13, Q13, P14, Q14, P15, Q15, P16, Q16]
    have hp : Pu (EF Try.prog O0 26 [.slice al ll.length kl] h16) h16 (fitT (sumZ ll)) := rsum_ev ll _ h16 (hl.ext y16) (by omega) hwl
    unfold fitT at hp
    repeat refine WPo_ob ?_
    refine hp.bind fun h17 x17 => ?_
    clear hp
    have z17 := z16.trans x17
    have y17 := y16.trans x17
    have P17 := P4; rw [← z17.old _ (by omega)] at P17
    have Q17 := Q4; rw [← z17.old _ (by omega)] at Q17
    simp (maxSteps := 1000000) (disch := first | decide | omega | (simp only [go_sem]; first | done | omega)) only [go_sem, Int.reduceToNat, Nat.reduceMul, Nat.reduceAdd, Nat.reduceSub, ↓EU_region, ↓EU_draw, P9, Q9, P10, Q10, P11, Q11, P12, Q12, P13, Q13, P14, Q14, P15, Q15, P16, Q16, P17, Q17]
    rw [EU_bad _ _ rfl, EC_tab (tab := [(false, none), (false, none), (false, none), (false, none), (false, none), (false, none), (false, none), (false, none), (false, none), (false, none), (false, none), (false, none), (false, none), (false, none), (false, none), (false, none), (false, none), (false, none), (false, none), (false, none), (false, none), (false, none), (false, none), (false, none), (false, none), (false, none), (false, none), (false, none), (false, none), (false, none), (false, none), (false, none), (false, none), (false, none), (false, none), (false, none), (false, none), (false, none), (false, none), (false, none), (false, none), (false, none), (false, none), (false, none), (false, none), (false, none), (false, none), (false, none), (false, none), (false, none), (false, none), (false, none), (false, none), (true, none), (false, (some (0, 1))), (false, (some (0, 1))), (true, none), (false, none), (true, none), (false, none), (true, none), (true, none), (true, none), (false, none), (false, none), (false, none)]) (by kernel_rfl)]
    simp only [List.append_eq, List.cons_append, List.nil_append]
    simp (maxSteps := 1000000) (disch := first | decide | omega | (simp only [go_sem]; first | done | omega)) only [go_sem, Int.reduceToNat, Nat.reduceMul, Nat.reduceAdd, Nat.reduceSub, ↓EU_region, ↓EU_draw, P9, Q9, P10, Q10, P11, Q11, P12, Q12, P13, Q13, P14, Q14, P15, Q15, P16, Q16, P17, Q17, ds, bs]
    have hp : Pu (EF Try.prog O0 17 [.int .i64 a, .int .i64 b, .int .i64 c, .int .i64 d] h17) h17 (.int .i64 (sgnC (a * b) (c * d))) := cmpMul_ev a b c d h17 ha hb hc hd
    repeat refine WPo_ob ?_
    refine hp.bind fun h18 x18 => ?_
    clear hp
    have z18 := z17.trans x18
    have y18 := y17.trans x18
    have P18 := P4; rw [← z18.old _ (by omega)] at P18
    have Q18 := Q4; rw [← z18.old _ (by omega)] at Q18
    simp (maxSteps := 1000000) (disch := first | decide | omega | (simp only [go_sem]; first | done | omega)) only [go_sem, Int.reduceToNat, Nat.reduceMul, Nat.reduceAdd, Nat.reduceSub, ↓EU_region, ↓EU_draw, P10, Q10, P11, Q11, P12, Q12, P13, Q13, P14, Q14, P15, Q15, P16, Q16, P17, Q17, P18, Q18, ds, bs]
    have hp := rmul_ev n2 n3 l2 l3 _ _ h18 (u2.ext z18) (u3.ext z18) d2 d3 (by omega) (by omega)
    rw [enm] at hp
    unfold bigV at hp
    repeat refine WPo_ob ?_
    refine hp.mono ?_
    clear hp
    rintro ⟨v, h19⟩ ⟨l19, s19, rfl, o19, d19, v19, k19, x19⟩
    simp only at o19 x19
    have z19 := z18.trans x19
    have y19 := y18.trans x19
    have P19 := P4; rw [← z19.old _ (by omega)] at P19
    have Q19 := Q4; rw [← z19.old _ (by omega)] at Q19
    obtain ⟨p19, q19, rfl⟩ := o19.val
    simp (maxSteps := 1000000) (disch := first | decide | omega | (simp only [go_sem]; first | done | omega)) only [go_sem, Int.reduceToNat, Nat.reduceMul, Nat.reduceAdd, Nat.reduceSub, ↓EU_region, ↓EU_draw, P11, Q11, P12, Q12, P13, Q13, P14, Q14, P15, Q15, P16, Q16, P17, Q17, P18, Q18, P19, Q19, ds, bs]
    have s19 : sv nm l19 = a * b := by rw [← enm, ← e2, ← e3]; exact sv_mul v19
    have hp := rof_ev c h19 hc
    try unfold bigV at hp
    repeat refine WPo_ob ?_
    refine hp.mono ?_
    clear hp
    rintro ⟨v, h20⟩ ⟨n20, l20, s20, rfl, o20, d20, k20, e20, x20⟩
    simp only at o20 x20
    have z20 := z19.trans x20
    have y20 := y19.trans x20
    have P20 := P4; rw [← z20.old _ (by omega)] at P20
    have Q20 := Q4; rw [← z20.old _ (by omega)] at Q20
    obtain ⟨p20, q20, rfl⟩ := o20.val
    simp (maxSteps := 1000000) (disch := first | decide | omega | (simp only [go_sem]; first | done | omega)) only [go_sem, Int.reduceToNat, Nat.reduceMul, Nat.reduceAdd, Nat.reduceSub, ↓EU_region, ↓EU_draw, P12, Q12, P13, Q13, P14, Q14, P15, Q15, P16, Q16, P17, Q17, P18, Q18, P19, Q19, P20, Q20, ds, bs]
    have hp := rof_ev d h20 hd
    try unfold bigV at hp
    repeat refine WPo_ob ?_
    refine hp.mono ?_
    clear hp
    rintro ⟨v, h21⟩ ⟨n21, l21, s21, rfl, o21, d21, k21, e21, x21⟩
    simp only at o21 x21
    have z21 := z20.trans x21
    have y21 := y20.trans x21
    have P21 := P4; rw [← z21.old _ (by omega)] at P21
    have Q21 := Q4; rw [← z21.old _ (by omega)] at Q21
    obtain ⟨p21, q21, rfl⟩ := o21.val
    simp (maxSteps := 1000000) (disch := first | decide | omega | (simp only [go_sem]; first | done | omega)) only [go_sem, Int.reduceToNat, Nat.reduceMul, Nat.reduceAdd, Nat.reduceSub, ↓EU_region, ↓EU_draw, P13, Q13, P14, Q14, P15, Q15, P16, Q16, P17, Q17, P18, Q18, P19, Q19, P20, Q20, P21, Q21, ds, bs]
    obtain ⟨nw, enw⟩ : ∃ z, (n20 != n21) = z := ⟨_, rfl⟩
    have hp := rmul_ev n20 n21 l20 l21 _ _ h21 (o20.ext x21) o21 d20 d21 (by omega) (by omega)
    rw [enw] at hp
    unfold bigV at hp
    repeat refine WPo_ob ?_
    refine hp.mono ?_
    clear hp
    rintro ⟨v, h22⟩ ⟨l22, s22, rfl, o22, d22, v22, k22, x22⟩
    simp only at o22 x22
    have z22 := z21.trans x22
    have y22 := y21.trans x22
    have P22 := P4; rw [← z22.old _ (by omega)] at P22
    have Q22 := Q4; rw [← z22.old _ (by omega)] at Q22
    obtain ⟨p22, q22, rfl⟩ := o22.val
    simp (maxSteps := 1000000) (disch := first | decide | omega | (simp only [go_sem]; first | done | omega)) only [go_sem, Int.reduceToNat, Nat.reduceMul, Nat.reduceAdd, Nat.reduceSub, ↓EU_region, ↓EU_draw, P14, Q14, P15, Q15, P16, Q16, P17, Q17, P18, Q18, P19, Q19, P20, Q20, P21, Q21, P22, Q22, ds, bs]
    have s22 : sv nw l22 = c * d := by rw [← enw, ← e20, ← e21]; exact sv_mul v22
    have hcm := rcmp_ev nm nw l19 l22 _ _ h22 (o19.ext ((x20.trans x21).trans x22)) o22 d19 d22 (by omega) (by omega)
    rw [s19, s22] at hcm
    unfold bigV at hcm
    repeat refine WPo_ob ?_
    refine hcm.bind fun h23 x23 => ?_
    clear hcm
    have z23 := z22.trans x23
    have y23 := y22.trans x23
    have P23 := P4; rw [← z23.old _ (by omega)] at P23
    have Q23 := Q4; rw [← z23.old _ (by omega)] at Q23
    simp (maxSteps := 1000000) (disch := first | decide | omega | (simp only [go_sem]; first | done | omega)) only [go_sem, Int.reduceToNat, Nat.reduceMul, Nat.reduceAdd, Nat.reduceSub, ↓EU_region, ↓EU_draw, P17, Q17, P18, Q18, P19, Q19, P20, Q20, P21, Q21, P22, Q22, P23, Q23, ds, bs, hv2, hv3]
end Go.Proofs.Ythaacidfpcljfaa.EV
