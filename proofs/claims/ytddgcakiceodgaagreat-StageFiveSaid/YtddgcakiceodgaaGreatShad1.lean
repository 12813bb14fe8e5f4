/- Contracts: shadow.Write, Make, Fits; (*core.Core).Change. No condition. -/
import Derived.Test.YtddgcakiceodgaaGreatCore1
import Derived.Test.YtddgcakiceodgaaGreatElder3
import Derived.Test.YtddgcakiceodgaaGreatChk2
namespace Go.Proofs.YtddgcakiceodgaaGreat.EV
open Go Go.Proofs
set_option linter.unusedVariables false
set_option linter.unusedSimpArgs false
set_option maxRecDepth 100000
set_option pp.deepTerms false
set_option pp.deepTerms.threshold 20
section
variable {cb qb lb mb : Nat} {v : Value} {tag base cur : Int} {l : List Pnt} {idle age : Int} {h : Heap}
theorem write_ev (q : CQ h cb qb lb mb v tag base cur l idle age) (hl : l.length < 800000) (hw : Near base l) : WPo (EF Tryz.prog O0 61 [ptr cb 0] h) fun q => Ext h q.2 ∧ (cgood tag cur (l.map (itP base)) = false → q.1 = .tuple ⟨[.slice none 0 1, .int .i64 1]⟩) ∧ (cgood tag cur (l.map (itP base)) = true → ∃ u, q.1 = .tuple ⟨[u, .int .i64 0]⟩ ∧ OW byteE 1 q.2 u (sealN (encF tag cur (l.map (itP base)))) ∧ Fresh h.next u) := by
  rw [EF_body (O := O0) (by kernel_rfl) Tryz.func61 rfl (rs := [.tmp 2, .tmp 3]) rfl (bad := []) (by kernel_rfl) _ _ (m := 11) rfl]
  simp (maxSteps := 1000000) (disch := first | decide | omega | (simp only [go_sem]; first | done | omega)) only [go_sem, Int.reduceToNat, Nat.reduceMul, Nat.reduceAdd, Nat.reduceSub, ↓EU_region, ↓EU_draw, coreTag_ev q]
  repeat refine WPo_ob ?_
  refine (coreForm_ev q (by omega) hw).mono ?_
  rintro ⟨w, h1⟩ ⟨u, e, ou, fu, x1⟩
  simp only at e ou x1
  subst e
  unfold formV
  simp (maxSteps := 1000000) (disch := first | decide | omega | (simp only [go_sem]; first | done | omega)) only [go_sem, Int.reduceToNat, Nat.reduceMul, Nat.reduceAdd, Nat.reduceSub, ↓EU_region, ↓EU_draw]
  repeat refine WPo_ob ?_
  refine (cput_ev tag cur (l.map (itP base)) u h1 ou.sl (by rw [List.length_map]; exact hl)).mono ?_
  rintro ⟨w, h2⟩ ⟨x2, k1, k2⟩
  simp only at x2 k1 k2
  cases hg : cgood tag cur (l.map (itP base)) with
  | false =>
    have e := k1 hg
    subst e
    simp (maxSteps := 1000000) (disch := first | decide | omega | (simp only [go_sem]; first | done | omega)) only [go_sem, Int.reduceToNat, Nat.reduceMul, Nat.reduceAdd, Nat.reduceSub, ↓EU_region, ↓EU_draw]
    exact ⟨x1.trans x2, fun _ => trivial, fun h => (by cases h)⟩
  | true =>
    obtain ⟨b, e, ob, fb⟩ := k2 hg
    subst e
    simp (maxSteps := 1000000) (disch := first | decide | omega | (simp only [go_sem]; first | done | omega)) only [go_sem, Int.reduceToNat, Nat.reduceMul, Nat.reduceAdd, Nat.reduceSub, ↓EU_region, ↓EU_draw]
    exact ⟨x1.trans x2, fun h => (by cases h), fun _ => ⟨_, rfl, ob, fb.mono x1.le⟩⟩
end
theorem make_ev (b : List UInt8) (s : Value) (tag base : Int) (h : Heap) (hs : SL byteE 1 h s b) (hl : b.length < 600000) (hlr : (readR b).2.2.2.1.length < 900000) :
    WPo (EF Tryz.prog O0 62 [s, .int .i64 tag, .int .i64 base] h) fun q => Ext h q.2 ∧ (tgood tag = false → q.1 = .tuple ⟨[nilP, .int .i64 1]⟩) ∧ (tgood tag = true → (readR b).2.2.2.2 ≠ 0 → q.1 = .tuple ⟨[nilP, .int .i64 (readR b).2.2.2.2]⟩) ∧ (tgood tag = true → (readR b).2.2.2.2 = 0 → bgood base = true → goodF (readR b).2.2.1 (readR b).2.2.2.1 = true → ∃ qb lb v, q.1 = .tuple ⟨[ptr qb 0, .int .i64 0]⟩ ∧ PQ q.2 qb lb v tag base (readR b).2.2.1 ((readR b).2.2.2.1.map (ptI base)) ∧ h.next ≤ qb ∧ h.next ≤ lb ∧ Fresh h.next v) := by
  rw [EF_body (O := O0) (by kernel_rfl) Tryz.func62 rfl (rs := [.tmp 6, .tmp 7]) rfl (bad := []) (by kernel_rfl) _ _ (m := 29) rfl]
  cases ht : tgood tag with
  | false =>
    simp (maxSteps := 1000000) (disch := first | decide | omega | (simp only [go_sem]; first | done | omega)) only [go_sem, Int.reduceToNat, Nat.reduceMul, Nat.reduceAdd, Nat.reduceSub, ↓EU_region, ↓EU_draw, polGood_ev, ht]
    exact ⟨Ext.refl _, fun _ => rfl, fun h => (by cases h), fun h => (by cases h)⟩
  | true =>
    simp (maxSteps := 1000000) (disch := first | decide | omega | (simp only [go_sem]; first | done | omega)) only [go_sem, Int.reduceToNat, Nat.reduceMul, Nat.reduceAdd, Nat.reduceSub, ↓EU_region, ↓EU_draw, polGood_ev, ht]
    repeat refine WPo_ob ?_
    refine (eread_ev b s h hs hl).mono ?_
    rintro ⟨w, h1⟩ ⟨u, e, ou, fu, x1⟩
    simp only at e ou x1
    subst e
    revert ou hlr
    generalize (readR b).2.2.2.2 = er
    generalize (readR b).2.2.2.1 = rl
    generalize (readR b).2.2.1 = rc
    generalize (readR b).2.1 = rt
    intro hlr ou
    obtain ⟨au, ku, hu⟩ := ou.val
    subst hu
    unfold formV
    simp (maxSteps := 1000000) (disch := first | decide | omega | (simp only [go_sem]; first | done | omega)) only [go_sem, Int.reduceToNat, Nat.reduceMul, Nat.reduceAdd, Nat.reduceSub, ↓EU_region, ↓EU_draw]
    ((repeat refine WPo_ob ?_); (first | refine WPo_cond (fun b1 => ?_) (fun b1 => ?_) | refine WPo_gard (fun b1 => ?_) (fun b1 => ?_) | refine WPo_gardT (fun b1 => ?_) (fun b1 => ?_)) <;> (try simp only [Bool.not_eq_true', Bool.not_eq_false'] at b1))
    · simp only [decide_eq_false_iff_not] at b1
      simp (maxSteps := 1000000) (disch := first | decide | omega | (simp only [go_sem]; first | done | omega)) only [go_sem, Int.reduceToNat, Nat.reduceMul, Nat.reduceAdd, Nat.reduceSub, ↓EU_region, ↓EU_draw]
      refine ⟨by repeat (first | exact Ext.refl _ | assumption | refine Ext.push ?_ _ | refine Ext.set ?_ _ _ (by first | omega | (simp only [next_push, next_set]; omega))), fun h => (by cases h), fun _ _ => rfl, fun _ h => absurd h b1⟩
    · simp only [decide_eq_true_eq] at b1
      subst b1
      simp (maxSteps := 1000000) (disch := first | decide | omega | (simp only [go_sem]; first | done | omega)) only [go_sem, Int.reduceToNat, Nat.reduceMul, Nat.reduceAdd, Nat.reduceSub, ↓EU_region, ↓EU_draw]
      repeat refine WPo_ob ?_
      refine (polSeed_ev tag base rc rl (.slice au rl.length ku) _ (ou.sl.ext ?_) hlr).mono ?_
      · exact (Ext.refl h1).push _
      rintro ⟨w, h2⟩ ⟨x2, k⟩
      simp only at k x2
      cases hg : (tgood tag && (bgood base && goodF rc rl)) with
      | false =>
        rw [hg, if_neg (by decide)] at k
        subst k
        unfold nilP
        simp (maxSteps := 1000000) (disch := first | decide | omega | (simp only [go_sem]; first | done | omega)) only [go_sem, Int.reduceToNat, Nat.reduceMul, Nat.reduceAdd, Nat.reduceSub, ↓EU_region, ↓EU_draw]
        refine ⟨x1.trans (((Ext.refl h1).push _).trans x2), fun h => (by cases h), fun _ h => absurd rfl h, fun _ _ h1 h2 => ?_⟩
        rw [ht, h1, h2] at hg; cases hg
      | true =>
        rw [hg, if_pos rfl] at k
        obtain ⟨qb, lb, v, e, pq, hqb, hlb, fv⟩ := k
        subst e
        have := x1.le
        simp only [next_push] at hqb hlb fv
        simp (maxSteps := 1000000) (disch := first | decide | omega | (simp only [go_sem]; first | done | omega)) only [go_sem, Int.reduceToNat, Nat.reduceMul, Nat.reduceAdd, Nat.reduceSub, ↓EU_region, ↓EU_draw]
        exact ⟨x1.trans (((Ext.refl h1).push _).trans x2), fun h => (by cases h), fun _ h => absurd rfl h, fun _ _ _ _ => ⟨qb, lb, v, rfl, pq, by omega, by omega, fv.mono (by omega)⟩⟩
theorem fits_ev {cb qb lb mb : Nat} {v : Value} {tag base cur : Int} {l : List Pnt} {idle age : Int} {h : Heap} {qb2 lb2 : Nat} {v2 : Value} {tag2 base2 cur2 : Int} {l2 : List Pnt} (q : CQ h cb qb lb mb v tag base cur l idle age) (q2 : PQ h qb2 lb2 v2 tag2 base2 cur2 l2) (hl : l.length < 800000) (hw : Near base l) (hl2 : l2.length < 800000) (hw2 : Near base2 l2) :
    WPo (EF Tryz.prog O0 63 [ptr cb 0, ptr qb2 0] h) fun q => OW fltE 2 q.2 q.1 (faultsF cur2 (l2.map (itP base2)) cur (l.map (itP base))) ∧ Fresh h.next q.1 ∧ Ext h q.2 := by
  have g2 := q2.gb
  rw [EF_body (O := O0) (by kernel_rfl) Tryz.func63 rfl (rs := [.tmp 4]) rfl (bad := []) (by kernel_rfl) _ _ (m := 13) rfl]
  simp (maxSteps := 1000000) (disch := first | decide | omega | (simp only [go_sem]; first | done | omega)) only [go_sem, Int.reduceToNat, Nat.reduceMul, Nat.reduceAdd, Nat.reduceSub, ↓EU_region, ↓EU_draw, g2]
  repeat refine WPo_ob ?_
  refine (formI_ev tag2 base2 cur2 l2 v2 lb2 h q2.tg q2.lq (by omega) hw2).mono ?_
  rintro ⟨w, h1⟩ ⟨u2, e, ou2, fu2, x1⟩
  simp only at e ou2 x1
  subst e
  unfold formV
  simp (maxSteps := 1000000) (disch := first | decide | omega | (simp only [go_sem]; first | done | omega)) only [go_sem, Int.reduceToNat, Nat.reduceMul, Nat.reduceAdd, Nat.reduceSub, ↓EU_region, ↓EU_draw]
  repeat refine WPo_ob ?_
  refine (coreForm_ev (q.ext x1) (by omega) hw).mono ?_
  rintro ⟨w, h2⟩ ⟨u, e, ou, fu, x2⟩
  simp only at e ou x2
  subst e
  unfold formV
  simp (maxSteps := 1000000) (disch := first | decide | omega | (simp only [go_sem]; first | done | omega)) only [go_sem, Int.reduceToNat, Nat.reduceMul, Nat.reduceAdd, Nat.reduceSub, ↓EU_region, ↓EU_draw]
  repeat refine WPo_ob ?_
  refine (faults_ev cur2 cur (l2.map (itP base2)) (l.map (itP base)) u2 u h2 (ou2.ext x2).sl ou.sl (by rw [List.length_map]; omega) (by rw [List.length_map]; omega)).mono ?_
  rintro ⟨w, h3⟩ ⟨o3, f3, x3⟩
  simp only at o3 x3 f3
  obtain ⟨a3, k3, e3⟩ := o3.val
  subst e3
  simp (maxSteps := 1000000) (disch := first | decide | omega | (simp only [go_sem]; first | done | omega)) only [go_sem, Int.reduceToNat, Nat.reduceMul, Nat.reduceAdd, Nat.reduceSub, ↓EU_region, ↓EU_draw]
  exact ⟨o3, f3.mono (Nat.le_trans x1.le x2.le), (x1.trans x2).trans x3⟩
@[go_sem] theorem veq_ifp (t : TypeId) (b : Nat) : veq (.iface t (ptr b 0)) (.iface t (ptr b 0)) = true := by
  show (Nat.beq t t && (Nat.beq b b && Nat.beq 0 0)) = true
  rw [beq_nat rfl, beq_nat rfl]
  rfl
@[go_sem] theorem pq_nil (b : Nat) (x y : Operand) : evBin Tryz.prog .eql 71 x y (ptr b 0) (.pointer none) = some (.bool false) := by kernel_rfl
@[go_sem] theorem cq_nil (b : Nat) (x y : Operand) : evBin Tryz.prog .eql 26 x y (ptr b 0) (.pointer none) = some (.bool false) := by kernel_rfl
@[go_sem] theorem cq_nil' (x y : Operand) : evBin Tryz.prog .eql 26 x y (.pointer none) (.pointer none) = some (.bool true) := by kernel_rfl
theorem change_ev {cb qb lb mb : Nat} {v : Value} {tag base cur : Int} {l : List Pnt} {idle age : Int} {h : Heap} {qb2 lb2 : Nat} {v2 : Value} {tag2 base2 cur2 : Int} {l2 : List Pnt} (q : CQ h cb qb lb mb v tag base cur l idle age) (q2 : PQ h qb2 lb2 v2 tag2 base2 cur2 l2) (hl : l.length < 800000) (hw : Near base l) (hl2 : l2.length < 800000) (hw2 : Near base2 l2) :
    WPo (EF Tryz.prog O0 64 [ptr cb 0, ptr qb2 0] h) fun r => if cur2 = cur ∧ l2.map (itP base2) = l.map (itP base) then r.1 = .int .i64 0 ∧ Mod (fun i => i = cb) h r.2 ∧ r.2.get cb = .cells [ptr qb2 0, .map (some mb), .int .i64 idle, .int .i64 age] 0 else r.1 = .int .i64 4 ∧ Ext h r.2 := by
  have g2 := q2.gb
  have g1 := q.gb
  have g3 := q.pq.gb
  rw [EF_body (O := O0) (by kernel_rfl) Tryz.func64 rfl (rs := [.tmp 4]) rfl (bad := [3]) (by kernel_rfl) _ _ (m := 28) rfl]
  simp (maxSteps := 1000000) (disch := first | decide | omega | (simp only [go_sem]; first | done | omega)) only [go_sem, Int.reduceToNat, Nat.reduceMul, Nat.reduceAdd, Nat.reduceSub]
  (first | rw [EU_region] | rw [EU_draw _ _ rfl]); simp (maxSteps := 1000000) (disch := first | decide | omega | (simp only [go_sem]; first | done | omega)) only [go_sem, Int.reduceToNat, Nat.reduceMul, Nat.reduceAdd, Nat.reduceSub]
  simp (maxSteps := 1000000) (disch := first | decide | omega | (simp only [go_sem]; first | done | omega)) only [go_sem, Int.reduceToNat, Nat.reduceMul, Nat.reduceAdd, Nat.reduceSub, ↓EU_region, ↓EU_draw]
  rw [EU_bad _ _ rfl, EC_tab (tab := [(false, none), (false, none), (false, none), (false, none), (true, none), (false, none), (false, none), (false, none), (false, (some (0, 1))), (false, none), (false, none), (false, (some (0, 1))), (true, none), (true, none), (false, none), (false, none)]) (by kernel_rfl)]
  simp (maxSteps := 1000000) (disch := first | decide | omega | (simp only [go_sem]; first | done | omega)) only [go_sem, Int.reduceToNat, Nat.reduceMul, Nat.reduceAdd, Nat.reduceSub, ↓EU_region, ↓EU_draw, g2]
  repeat refine WPo_ob ?_
  refine (formI_ev tag2 base2 cur2 l2 v2 lb2 h q2.tg q2.lq (by omega) hw2).mono ?_
  rintro ⟨w, h1⟩ ⟨u2, e, ou2, fu2, x1⟩
  simp only at e ou2 x1
  subst e
  unfold formV
  have q' := q.ext x1
  have g1' := q'.gb
  have g3' := q'.pq.gb
  have g2' := (x1.old qb2 q2.lt).trans g2
  simp (maxSteps := 1000000) (disch := first | decide | omega | (simp only [go_sem]; first | done | omega)) only [go_sem, Int.reduceToNat, Nat.reduceMul, Nat.reduceAdd, Nat.reduceSub, ↓EU_region, ↓EU_draw, g1', g3', g2']
  repeat refine WPo_ob ?_
  refine (formI_ev tag base cur l v lb h1 q'.pq.tg q'.pq.lq (by omega) hw).mono ?_
  rintro ⟨w, h2⟩ ⟨u, e, ou, fu, x2⟩
  simp only at e ou x2
  subst e
  unfold formV
  have q'' := q'.ext x2
  have g1'' := q''.gb
  have g3'' := q''.pq.gb
  have g2'' := (x2.old qb2 (Nat.lt_of_lt_of_le q2.lt x1.le)).trans g2'
  simp (maxSteps := 1000000) (disch := first | decide | omega | (simp only [go_sem]; first | done | omega)) only [go_sem, Int.reduceToNat, Nat.reduceMul, Nat.reduceAdd, Nat.reduceSub, ↓EU_region, ↓EU_draw, g1, g3, g2, g1', g3', g2', g1'', g3'', g2'']
  repeat refine WPo_ob ?_
  refine (same_ev cur2 cur (l2.map (itP base2)) (l.map (itP base)) u2 u h2 (ou2.ext x2).sl ou.sl (by rw [List.length_map]; omega)).bind fun h3 x3 => ?_
  have q3 := q''.ext x3
  have g13 := q3.gb
  have g33 := q3.pq.gb
  have g23 := (x3.old qb2 (Nat.lt_of_lt_of_le q2.lt (Nat.le_trans x1.le x2.le))).trans g2''
  have xa := (x1.trans x2).trans x3
  obtain ⟨a1, k1, e1⟩ := ou2.val
  subst e1
  obtain ⟨a2, k2, e2⟩ := ou.val
  subst e2
  simp (maxSteps := 1000000) (disch := first | decide | omega | (simp only [go_sem]; first | done | omega)) only [go_sem, Int.reduceToNat, Nat.reduceMul, Nat.reduceAdd, Nat.reduceSub, ↓EU_region, ↓EU_draw, g1, g3, g2, g1', g3', g2', g1'', g3'', g2'', g13, g33, g23]
  by_cases hc : cur2 = cur ∧ l2.map (itP base2) = l.map (itP base)
  · have hd : (decide (cur2 = cur) && decide (l2.map (itP base2) = l.map (itP base))) = true := by rw [decide_eq_true hc.1, decide_eq_true hc.2]; rfl
    simp (maxSteps := 1000000) (disch := first | decide | omega | (simp only [go_sem]; first | done | omega)) only [go_sem, Int.reduceToNat, Nat.reduceMul, Nat.reduceAdd, Nat.reduceSub, ↓EU_region, ↓EU_draw, if_pos hc, hd, g13]
    exact ⟨trivial, (xa.mod _).set _ _ fun _ => rfl, trivial⟩
  · have hd : (decide (cur2 = cur) && decide (l2.map (itP base2) = l.map (itP base))) = false := by
      rw [Bool.and_eq_false_iff, decide_eq_false_iff_not, decide_eq_false_iff_not]
      by_cases q : cur2 = cur
      · exact .inr fun e => hc ⟨q, e⟩
      · exact .inl q
    simp (maxSteps := 1000000) (disch := first | decide | omega | (simp only [go_sem]; first | done | omega)) only [go_sem, Int.reduceToNat, Nat.reduceMul, Nat.reduceAdd, Nat.reduceSub, ↓EU_region, ↓EU_draw, if_neg hc, hd, g13]
    exact ⟨trivial, xa⟩
end Go.Proofs.YtddgcakiceodgaaGreat.EV
