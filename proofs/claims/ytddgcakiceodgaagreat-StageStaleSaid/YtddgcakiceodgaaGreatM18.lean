/- Contracts: shadow.Write, Make, Fits; (*core.Core).Change. No condition. Contracts: (*stage.Try).next. No condition. Contracts: stage.New, (*stage.Try).Step, Abort, Stage, Why, Bytes. No condition. Plain facts on faults: none just if the form may be; none against another just if both are the same. No condition. A try left alone, step by step. No condition. The statements' fill. No condition. Contracts: (*owed.Line).find, Least, Now, Take, grow. No condition. -/
import Derived.Test.YtddgcakiceodgaaGreatM12
import Derived.Test.YtddgcakiceodgaaGreatM16
import Derived.Test.YtddgcakiceodgaaGreatM17
import Derived.Test.YtddgcakiceodgaaGreatM11
namespace Go.Proofs.YtddgcakiceodgaaGreat.EV
open Go Go.Proofs
set_option linter.unusedVariables false
set_option linter.unusedSimpArgs false
set_option maxRecDepth 100000
set_option pp.deepTerms false
set_option pp.deepTerms.threshold 20
section
variable {cb qb lb mb : Nat} {v : Value} {tag base cur : Int} {l : List Pnt} {idle age : Int} {h : Heap}
theorem write_ev (q : CQ h cb qb lb mb v tag base cur l idle age) (hl : l.length < 800000) (hw : Near base l) : WPo (EF Tryz.prog O0 61 [ptr cb 0] h) fun q => Ext h q.2 ∧ (cgood tag cur (l.map (itP base)) = false → q.1 = .tuple ⟨[.slice none 0 1, .int .i64 1]⟩) ∧ (cgood tag cur (l.map (itP base)) = true → ∃ u, q.1 = .tuple ⟨[u, .int .i64 0]⟩ ∧ OW byteE 1 q.2 u (sealN (encF tag cur (l.map (itP base)))) ∧ Fresh h.next u) := by
  rw [EF_body (O := O0) (by kernel_rfl) Tryz.func61 rfl (rs := [.tmp 2, .tmp 3]) rfl (bad := []) (by kernel_rfl) _ _ (m := 11) rfl]
  simp (disch := first|exact dis|fail) only [go_sem, Int.reduceToNat, Nat.reduceMul, Nat.reduceAdd, Nat.reduceSub, ↓EU_region, ↓EU_draw, coreTag_ev q]
  repeat refine WPo_ob ?_
  refine (coreForm_ev q (by omega) hw).mono ?_
  rintro ⟨w, h1⟩ ⟨u, e, ou, fu, x1⟩
  simp only at e ou x1
  subst e
  unfold formV
  simp (disch := first|exact dis|fail) only [go_sem, Int.reduceToNat, Nat.reduceMul, Nat.reduceAdd, Nat.reduceSub, ↓EU_region, ↓EU_draw]
  repeat refine WPo_ob ?_
  refine (cput_ev tag cur (l.map (itP base)) u h1 ou.sl (by rw [List.length_map]; exact hl)).mono ?_
  rintro ⟨w, h2⟩ ⟨x2, k1, k2⟩
  simp only at x2 k1 k2
  cases hg : cgood tag cur (l.map (itP base)) with
  | false =>
    have e := k1 hg
    subst e
    simp (disch := first|exact dis|fail) only [go_sem, Int.reduceToNat, Nat.reduceMul, Nat.reduceAdd, Nat.reduceSub, ↓EU_region, ↓EU_draw]
    exact ⟨x1.trans x2, fun _ => trivial, fun h => (by cases h)⟩
  | true =>
    obtain ⟨b, e, ob, fb⟩ := k2 hg
    subst e
    simp (disch := first|exact dis|fail) only [go_sem, Int.reduceToNat, Nat.reduceMul, Nat.reduceAdd, Nat.reduceSub, ↓EU_region, ↓EU_draw]
    exact ⟨x1.trans x2, fun h => (by cases h), fun _ => ⟨_, rfl, ob, fb.mono x1.le⟩⟩
end
theorem make_ev (b : List UInt8) (s : Value) (tag base : Int) (h : Heap) (hs : SL byteE 1 h s b) (hl : b.length < 600000) (hlr : (readR b).2.2.2.1.length < 900000) :
    WPo (EF Tryz.prog O0 62 [s, .int .i64 tag, .int .i64 base] h) fun q => Ext h q.2 ∧ (tgood tag = false → q.1 = .tuple ⟨[nilP, .int .i64 1]⟩) ∧ (tgood tag = true → (readR b).2.2.2.2 ≠ 0 → q.1 = .tuple ⟨[nilP, .int .i64 (readR b).2.2.2.2]⟩) ∧ (tgood tag = true → (readR b).2.2.2.2 = 0 → bgood base = true → goodF (readR b).2.2.1 (readR b).2.2.2.1 = true → ∃ qb lb v, q.1 = .tuple ⟨[ptr qb 0, .int .i64 0]⟩ ∧ PQ q.2 qb lb v tag base (readR b).2.2.1 ((readR b).2.2.2.1.map (ptI base)) ∧ h.next ≤ qb ∧ h.next ≤ lb ∧ Fresh h.next v) := by
  rw [EF_body (O := O0) (by kernel_rfl) Tryz.func62 rfl (rs := [.tmp 6, .tmp 7]) rfl (bad := []) (by kernel_rfl) _ _ (m := 29) rfl]
  cases ht : tgood tag with
  | false =>
    simp (disch := first|exact dis|fail) only [go_sem, Int.reduceToNat, Nat.reduceMul, Nat.reduceAdd, Nat.reduceSub, ↓EU_region, ↓EU_draw, polGood_ev, ht]
    exact ⟨Ext.refl _, fun _ => rfl, fun h => (by cases h), fun h => (by cases h)⟩
  | true =>
    simp (disch := first|exact dis|fail) only [go_sem, Int.reduceToNat, Nat.reduceMul, Nat.reduceAdd, Nat.reduceSub, ↓EU_region, ↓EU_draw, polGood_ev, ht]
    repeat refine WPo_ob ?_
    refine (eread_ev b s h hs hl).mono ?_
    rintro ⟨w, h1⟩ ⟨u, e, ou, fu, x1⟩
    simp only at e ou x1
    subst e
    revert ou hlr
    generalize (readR b).2.2.2.2 = er
    generalize (readR b).2.2.2.1 = rl
    generalize (readR b).2.2.1 = rc
    generalize (readR b).2.1 = rt
    intro hlr ou
    obtain ⟨au, ku, hu⟩ := ou.val
    subst hu
    unfold formV
    simp (disch := first|exact dis|fail) only [go_sem, Int.reduceToNat, Nat.reduceMul, Nat.reduceAdd, Nat.reduceSub, ↓EU_region, ↓EU_draw]
    ((repeat refine WPo_ob ?_); (first | refine WPo_cond (fun b1 => ?_) (fun b1 => ?_) | refine WPo_gard (fun b1 => ?_) (fun b1 => ?_) | refine WPo_gardT (fun b1 => ?_) (fun b1 => ?_)) <;> (try simp only [Bool.not_eq_true', Bool.not_eq_false'] at b1))
    · simp only [decide_eq_false_iff_not] at b1
      simp (disch := first|exact dis|fail) only [go_sem, Int.reduceToNat, Nat.reduceMul, Nat.reduceAdd, Nat.reduceSub, ↓EU_region, ↓EU_draw]
      refine ⟨by repeat (first | exact Ext.refl _ | assumption | refine Ext.push ?_ _ | refine Ext.set ?_ _ _ (by first | omega | (simp only [next_push, next_set]; omega))), fun h => (by cases h), fun _ _ => rfl, fun _ h => absurd h b1⟩
    · simp only [decide_eq_true_eq] at b1
      subst b1
      simp (disch := first|exact dis|fail) only [go_sem, Int.reduceToNat, Nat.reduceMul, Nat.reduceAdd, Nat.reduceSub, ↓EU_region, ↓EU_draw]
      repeat refine WPo_ob ?_
      refine (polSeed_ev tag base rc rl (.slice au rl.length ku) _ (ou.sl.ext ?_) hlr).mono ?_
      · exact (Ext.refl h1).push _
      rintro ⟨w, h2⟩ ⟨x2, k⟩
      simp only at k x2
      cases hg : (tgood tag && (bgood base && goodF rc rl)) with
      | false =>
        rw [hg, if_neg (by decide)] at k
        subst k
        unfold nilP
        simp (disch := first|exact dis|fail) only [go_sem, Int.reduceToNat, Nat.reduceMul, Nat.reduceAdd, Nat.reduceSub, ↓EU_region, ↓EU_draw]
        refine ⟨x1.trans (((Ext.refl h1).push _).trans x2), fun h => (by cases h), fun _ h => absurd rfl h, fun _ _ h1 h2 => ?_⟩
        rw [ht, h1, h2] at hg; cases hg
      | true =>
        rw [hg, if_pos rfl] at k
        obtain ⟨qb, lb, v, e, pq, hqb, hlb, fv⟩ := k
        subst e
        have := x1.le
        simp only [next_push] at hqb hlb fv
        simp (disch := first|exact dis|fail) only [go_sem, Int.reduceToNat, Nat.reduceMul, Nat.reduceAdd, Nat.reduceSub, ↓EU_region, ↓EU_draw]
        exact ⟨x1.trans (((Ext.refl h1).push _).trans x2), fun h => (by cases h), fun _ h => absurd rfl h, fun _ _ _ _ => ⟨qb, lb, v, rfl, pq, by omega, by omega, fv.mono (by omega)⟩⟩
theorem fits_ev {cb qb lb mb : Nat} {v : Value} {tag base cur : Int} {l : List Pnt} {idle age : Int} {h : Heap} {qb2 lb2 : Nat} {v2 : Value} {tag2 base2 cur2 : Int} {l2 : List Pnt} (q : CQ h cb qb lb mb v tag base cur l idle age) (q2 : PQ h qb2 lb2 v2 tag2 base2 cur2 l2) (hl : l.length < 800000) (hw : Near base l) (hl2 : l2.length < 800000) (hw2 : Near base2 l2) :
    WPo (EF Tryz.prog O0 63 [ptr cb 0, ptr qb2 0] h) fun q => OW fltE 2 q.2 q.1 (faultsF cur2 (l2.map (itP base2)) cur (l.map (itP base))) ∧ Fresh h.next q.1 ∧ Ext h q.2 := by
  have g2 := q2.gb
  rw [EF_body (O := O0) (by kernel_rfl) Tryz.func63 rfl (rs := [.tmp 4]) rfl (bad := []) (by kernel_rfl) _ _ (m := 13) rfl]
  simp (disch := first|exact dis|fail) only [go_sem, Int.reduceToNat, Nat.reduceMul, Nat.reduceAdd, Nat.reduceSub, ↓EU_region, ↓EU_draw, g2]
  repeat refine WPo_ob ?_
  refine (formI_ev tag2 base2 cur2 l2 v2 lb2 h q2.tg q2.lq (by omega) hw2).mono ?_
  rintro ⟨w, h1⟩ ⟨u2, e, ou2, fu2, x1⟩
  simp only at e ou2 x1
  subst e
  unfold formV
  simp (disch := first|exact dis|fail) only [go_sem, Int.reduceToNat, Nat.reduceMul, Nat.reduceAdd, Nat.reduceSub, ↓EU_region, ↓EU_draw]
  repeat refine WPo_ob ?_
  refine (coreForm_ev (q.ext x1) (by omega) hw).mono ?_
  rintro ⟨w, h2⟩ ⟨u, e, ou, fu, x2⟩
  simp only at e ou x2
  subst e
  unfold formV
  simp (disch := first|exact dis|fail) only [go_sem, Int.reduceToNat, Nat.reduceMul, Nat.reduceAdd, Nat.reduceSub, ↓EU_region, ↓EU_draw]
  repeat refine WPo_ob ?_
  refine (faults_ev cur2 cur (l2.map (itP base2)) (l.map (itP base)) u2 u h2 (ou2.ext x2).sl ou.sl (by rw [List.length_map]; omega) (by rw [List.length_map]; omega)).mono ?_
  rintro ⟨w, h3⟩ ⟨o3, f3, x3⟩
  simp only at o3 x3 f3
  obtain ⟨a3, k3, e3⟩ := o3.val
  subst e3
  simp (disch := first|exact dis|fail) only [go_sem, Int.reduceToNat, Nat.reduceMul, Nat.reduceAdd, Nat.reduceSub, ↓EU_region, ↓EU_draw]
  exact ⟨o3, f3.mono (Nat.le_trans x1.le x2.le), (x1.trans x2).trans x3⟩
@[go_sem] theorem veq_ifp (t : TypeId) (b : Nat) : veq (.iface t (ptr b 0)) (.iface t (ptr b 0)) = true := by
  show (Nat.beq t t && (Nat.beq b b && Nat.beq 0 0)) = true
  rw [beq_nat rfl, beq_nat rfl]
  rfl
@[go_sem] theorem pq_nil (b : Nat) (x y : Operand) : evBin Tryz.prog .eql 71 x y (ptr b 0) (.pointer none) = some (.bool false) := by kernel_rfl
@[go_sem] theorem cq_nil (b : Nat) (x y : Operand) : evBin Tryz.prog .eql 26 x y (ptr b 0) (.pointer none) = some (.bool false) := by kernel_rfl
@[go_sem] theorem cq_nil' (x y : Operand) : evBin Tryz.prog .eql 26 x y (.pointer none) (.pointer none) = some (.bool true) := by kernel_rfl
theorem change_ev {cb qb lb mb : Nat} {v : Value} {tag base cur : Int} {l : List Pnt} {idle age : Int} {h : Heap} {qb2 lb2 : Nat} {v2 : Value} {tag2 base2 cur2 : Int} {l2 : List Pnt} (q : CQ h cb qb lb mb v tag base cur l idle age) (q2 : PQ h qb2 lb2 v2 tag2 base2 cur2 l2) (hl : l.length < 800000) (hw : Near base l) (hl2 : l2.length < 800000) (hw2 : Near base2 l2) :
    WPo (EF Tryz.prog O0 64 [ptr cb 0, ptr qb2 0] h) fun r => if cur2 = cur ∧ l2.map (itP base2) = l.map (itP base) then r.1 = .int .i64 0 ∧ Mod (fun i => i = cb) h r.2 ∧ r.2.get cb = .cells [ptr qb2 0, .map (some mb), .int .i64 idle, .int .i64 age] 0 else r.1 = .int .i64 4 ∧ Ext h r.2 := by
  have g2 := q2.gb
  have g1 := q.gb
  have g3 := q.pq.gb
  rw [EF_body (O := O0) (by kernel_rfl) Tryz.func64 rfl (rs := [.tmp 4]) rfl (bad := [3]) (by kernel_rfl) _ _ (m := 28) rfl]
  simp (disch := first|exact dis|fail) only [go_sem, Int.reduceToNat, Nat.reduceMul, Nat.reduceAdd, Nat.reduceSub]
  (first | rw [EU_region] | rw [EU_draw _ _ rfl]); simp (disch := first|exact dis|fail) only [go_sem, Int.reduceToNat, Nat.reduceMul, Nat.reduceAdd, Nat.reduceSub]
  simp (disch := first|exact dis|fail) only [go_sem, Int.reduceToNat, Nat.reduceMul, Nat.reduceAdd, Nat.reduceSub, ↓EU_region, ↓EU_draw]
  rw [EU_bad _ _ rfl, EC_tab (tab := [(false, none), (false, none), (false, none), (false, none), (true, none), (false, none), (false, none), (false, none), (false, (some (0, 1))), (false, none), (false, none), (false, (some (0, 1))), (true, none), (true, none), (false, none), (false, none)]) (by kernel_rfl)]
  simp (disch := first|exact dis|fail) only [go_sem, Int.reduceToNat, Nat.reduceMul, Nat.reduceAdd, Nat.reduceSub, ↓EU_region, ↓EU_draw, g2]
  repeat refine WPo_ob ?_
  refine (formI_ev tag2 base2 cur2 l2 v2 lb2 h q2.tg q2.lq (by omega) hw2).mono ?_
  rintro ⟨w, h1⟩ ⟨u2, e, ou2, fu2, x1⟩
  simp only at e ou2 x1
  subst e
  unfold formV
  have q' := q.ext x1
  have g1' := q'.gb
  have g3' := q'.pq.gb
  have g2' := (x1.old qb2 q2.lt).trans g2
  simp (disch := first|exact dis|fail) only [go_sem, Int.reduceToNat, Nat.reduceMul, Nat.reduceAdd, Nat.reduceSub, ↓EU_region, ↓EU_draw, g1', g3', g2']
  repeat refine WPo_ob ?_
  refine (formI_ev tag base cur l v lb h1 q'.pq.tg q'.pq.lq (by omega) hw).mono ?_
  rintro ⟨w, h2⟩ ⟨u, e, ou, fu, x2⟩
  simp only at e ou x2
  subst e
  unfold formV
  have q'' := q'.ext x2
  have g1'' := q''.gb
  have g3'' := q''.pq.gb
  have g2'' := (x2.old qb2 (Nat.lt_of_lt_of_le q2.lt x1.le)).trans g2'
  simp (disch := first|exact dis|fail) only [go_sem, Int.reduceToNat, Nat.reduceMul, Nat.reduceAdd, Nat.reduceSub, ↓EU_region, ↓EU_draw, g1, g3, g2, g1', g3', g2', g1'', g3'', g2'']
  repeat refine WPo_ob ?_
  refine (same_ev cur2 cur (l2.map (itP base2)) (l.map (itP base)) u2 u h2 (ou2.ext x2).sl ou.sl (by rw [List.length_map]; omega)).bind fun h3 x3 => ?_
  have q3 := q''.ext x3
  have g13 := q3.gb
  have g33 := q3.pq.gb
  have g23 := (x3.old qb2 (Nat.lt_of_lt_of_le q2.lt (Nat.le_trans x1.le x2.le))).trans g2''
  have xa := (x1.trans x2).trans x3
  obtain ⟨a1, k1, e1⟩ := ou2.val
  subst e1
  obtain ⟨a2, k2, e2⟩ := ou.val
  subst e2
  simp (disch := first|exact dis|fail) only [go_sem, Int.reduceToNat, Nat.reduceMul, Nat.reduceAdd, Nat.reduceSub, ↓EU_region, ↓EU_draw, g1, g3, g2, g1', g3', g2', g1'', g3'', g2'', g13, g33, g23]
  by_cases hc : cur2 = cur ∧ l2.map (itP base2) = l.map (itP base)
  · have hd : (decide (cur2 = cur) && decide (l2.map (itP base2) = l.map (itP base))) = true := by rw [decide_eq_true hc.1, decide_eq_true hc.2]; rfl
    simp (disch := first|exact dis|fail) only [go_sem, Int.reduceToNat, Nat.reduceMul, Nat.reduceAdd, Nat.reduceSub, ↓EU_region, ↓EU_draw, if_pos hc, hd, g13]
    exact ⟨trivial, (xa.mod _).set _ _ fun _ => rfl, trivial⟩
  · have hd : (decide (cur2 = cur) && decide (l2.map (itP base2) = l.map (itP base))) = false := by
      rw [Bool.and_eq_false_iff, decide_eq_false_iff_not, decide_eq_false_iff_not]
      by_cases q : cur2 = cur
      · exact .inr fun e => hc ⟨q, e⟩
      · exact .inl q
    simp (disch := first|exact dis|fail) only [go_sem, Int.reduceToNat, Nat.reduceMul, Nat.reduceAdd, Nat.reduceSub, ↓EU_region, ↓EU_draw, if_neg hc, hd, g13]
    exact ⟨trivial, xa⟩
end Go.Proofs.YtddgcakiceodgaaGreat.EV
namespace Go.Proofs.YtddgcakiceodgaaGreat.EV
open Go Go.Proofs
set_option linter.unusedVariables false
set_option linter.unusedSimpArgs false
set_option maxRecDepth 100000
set_option pp.deepTerms false
set_option pp.deepTerms.threshold 20
/-- a try's cells -/
noncomputable def tryL (cb : Nat) (tag base st why age : Int) (bv qv : Value) (f : Nat → Bool) : List Value :=
  [ptr cb 0, .int .i64 tag, .int .i64 base, .int .i64 st, .int .i64 why, .int .i64 age, bv, qv, .bool (f 0), .bool (f 1), .bool (f 2), .bool (f 3), .bool (f 4), .bool (f 5)]
section
variable {cb qb lb mb tb : Nat} {v : Value} {tag base cur : Int} {l : List Pnt} {idle cage : Int} {h : Heap} {tg bs st why age : Int} {bv qv : Value} {f : Nat → Bool}
theorem next1_ev (q : CQ h cb qb lb mb v tag base cur l idle cage) (ht : h.get tb = .cells (tryL cb tg bs st why age bv qv f) 0) :
    WPo (EF Tryz.prog O0 35 [ptr tb 0, .int .i64 1] h) fun r => if f 1 then r = (.int .i64 13, h) else r = (.int .i64 0, h.set tb (.cells (tryL cb tg bs st why cage bv qv f) 0)) := by
  have hA := coreAge_ev q
  unfold tryL at *
  rw [EF_body (O := O0) (by kernel_rfl) Tryz.func35 rfl (rs := [.tmp 4]) rfl (bad := [1]) (by kernel_rfl) _ _ (m := 95) rfl]
  simp (disch := first|exact dis|fail) only [go_sem, Int.reduceToNat, Nat.reduceMul, Nat.reduceAdd, Nat.reduceSub]
  (first | rw [EU_region] | rw [EU_draw _ _ rfl]); simp (disch := first|exact dis|fail) only [go_sem, Int.reduceToNat, Nat.reduceMul, Nat.reduceAdd, Nat.reduceSub]
  rw [EU_bad _ _ rfl, EC_tab (tab := [(false, none), (false, none), (false, none), (false, none), (false, none), (false, none), (false, none), (true, none), (false, none), (false, none), (false, none), (false, (some (0, 1))), (false, none), (false, none)]) (by kernel_rfl)]
  simp (disch := first|exact dis|fail) only [go_sem, Int.reduceToNat, Nat.reduceMul, Nat.reduceAdd, Nat.reduceSub, ↓EU_region, ↓EU_draw, ht, Int.reduceLT, Int.reduceEq, hA]
  cases hf : f 1 with
  | true =>
    rw [hf] at ht
    simp (disch := first|exact dis|fail) only [go_sem, Int.reduceToNat, Nat.reduceMul, Nat.reduceAdd, Nat.reduceSub, ↓EU_region, ↓EU_draw, ht, Int.reduceLT, Int.reduceEq, hA, if_true]
  | false =>
    rw [hf] at ht
    simp (disch := first|exact dis|fail) only [go_sem, Int.reduceToNat, Nat.reduceMul, Nat.reduceAdd, Nat.reduceSub, ↓EU_region, ↓EU_draw, ht, Int.reduceLT, Int.reduceEq, hA, if_false, Bool.false_eq_true]
theorem stale2_ev (q : CQ h cb qb lb mb v tag base cur l idle cage) (ht : h.get tb = .cells (tryL cb tg bs st why age bv qv f) 0) (hne : cage ≠ age) :
    EF Tryz.prog O0 35 [ptr tb 0, .int .i64 2] h = some (.int .i64 12, h) := by
  have : WPo (EF Tryz.prog O0 35 [ptr tb 0, .int .i64 2] h) fun r => r = (.int .i64 12, h) := by
    have hA := coreAge_ev q
    have hd : decide (cage = age) = false := decide_eq_false hne
    unfold tryL at *
    rw [EF_body (O := O0) (by kernel_rfl) Tryz.func35 rfl (rs := [.tmp 4]) rfl (bad := [1]) (by kernel_rfl) _ _ (m := 95) rfl]
    simp (disch := first|exact dis|fail) only [go_sem, Int.reduceToNat, Nat.reduceMul, Nat.reduceAdd, Nat.reduceSub]
    (first | rw [EU_region] | rw [EU_draw _ _ rfl]); simp (disch := first|exact dis|fail) only [go_sem, Int.reduceToNat, Nat.reduceMul, Nat.reduceAdd, Nat.reduceSub]
    rw [EU_bad _ _ rfl, EC_tab (tab := [(false, none), (false, none), (false, none), (false, none), (false, none), (false, none), (false, none), (true, none), (false, none), (false, none), (false, none), (false, (some (0, 1))), (false, none), (false, none)]) (by kernel_rfl)]
    simp (disch := first|exact dis|fail) only [go_sem, Int.reduceToNat, Nat.reduceMul, Nat.reduceAdd, Nat.reduceSub, ↓EU_region, ↓EU_draw, ht, Int.reduceLT, Int.reduceEq, hA, hd]
  obtain ⟨r, e, rfl⟩ := this
  exact e
theorem forced2_ev (q : CQ h cb qb lb mb v tag base cur l idle cage) (ht : h.get tb = .cells (tryL cb tg bs st why cage bv qv f) 0) (hf : f 2 = true) :
    EF Tryz.prog O0 35 [ptr tb 0, .int .i64 2] h = some (.int .i64 13, h) := by
  have : WPo (EF Tryz.prog O0 35 [ptr tb 0, .int .i64 2] h) fun r => r = (.int .i64 13, h) := by
    have hA := coreAge_ev q
    unfold tryL at *
    rw [hf] at ht
    rw [EF_body (O := O0) (by kernel_rfl) Tryz.func35 rfl (rs := [.tmp 4]) rfl (bad := [1]) (by kernel_rfl) _ _ (m := 95) rfl]
    simp (disch := first|exact dis|fail) only [go_sem, Int.reduceToNat, Nat.reduceMul, Nat.reduceAdd, Nat.reduceSub]
    (first | rw [EU_region] | rw [EU_draw _ _ rfl]); simp (disch := first|exact dis|fail) only [go_sem, Int.reduceToNat, Nat.reduceMul, Nat.reduceAdd, Nat.reduceSub]
    rw [EU_bad _ _ rfl, EC_tab (tab := [(false, none), (false, none), (false, none), (false, none), (false, none), (false, none), (false, none), (true, none), (false, none), (false, none), (false, none), (false, (some (0, 1))), (false, none), (false, none)]) (by kernel_rfl)]
    simp (disch := first|exact dis|fail) only [go_sem, Int.reduceToNat, Nat.reduceMul, Nat.reduceAdd, Nat.reduceSub, ↓EU_region, ↓EU_draw, ht, Int.reduceLT, Int.reduceEq, hA, decide_true]
  obtain ⟨r, e, rfl⟩ := this
  exact e
theorem stale3_ev (q : CQ h cb qb lb mb v tag base cur l idle cage) (ht : h.get tb = .cells (tryL cb tg bs st why age bv qv f) 0) (hne : cage ≠ age) :
    EF Tryz.prog O0 35 [ptr tb 0, .int .i64 3] h = some (.int .i64 12, h) := by
  have : WPo (EF Tryz.prog O0 35 [ptr tb 0, .int .i64 3] h) fun r => r = (.int .i64 12, h) := by
    have hA := coreAge_ev q
    have hd : decide (cage = age) = false := decide_eq_false hne
    unfold tryL at *
    rw [EF_body (O := O0) (by kernel_rfl) Tryz.func35 rfl (rs := [.tmp 4]) rfl (bad := [1]) (by kernel_rfl) _ _ (m := 95) rfl]
    simp (disch := first|exact dis|fail) only [go_sem, Int.reduceToNat, Nat.reduceMul, Nat.reduceAdd, Nat.reduceSub]
    (first | rw [EU_region] | rw [EU_draw _ _ rfl]); simp (disch := first|exact dis|fail) only [go_sem, Int.reduceToNat, Nat.reduceMul, Nat.reduceAdd, Nat.reduceSub]
    rw [EU_bad _ _ rfl, EC_tab (tab := [(false, none), (false, none), (false, none), (false, none), (false, none), (false, none), (false, none), (true, none), (false, none), (false, none), (false, none), (false, (some (0, 1))), (false, none), (false, none)]) (by kernel_rfl)]
    simp (disch := first|exact dis|fail) only [go_sem, Int.reduceToNat, Nat.reduceMul, Nat.reduceAdd, Nat.reduceSub, ↓EU_region, ↓EU_draw, ht, Int.reduceLT, Int.reduceEq, hA, hd]
  obtain ⟨r, e, rfl⟩ := this
  exact e
theorem forced3_ev (q : CQ h cb qb lb mb v tag base cur l idle cage) (ht : h.get tb = .cells (tryL cb tg bs st why cage bv qv f) 0) (hf : f 3 = true) :
    EF Tryz.prog O0 35 [ptr tb 0, .int .i64 3] h = some (.int .i64 13, h) := by
  have : WPo (EF Tryz.prog O0 35 [ptr tb 0, .int .i64 3] h) fun r => r = (.int .i64 13, h) := by
    have hA := coreAge_ev q
    unfold tryL at *
    rw [hf] at ht
    rw [EF_body (O := O0) (by kernel_rfl) Tryz.func35 rfl (rs := [.tmp 4]) rfl (bad := [1]) (by kernel_rfl) _ _ (m := 95) rfl]
    simp (disch := first|exact dis|fail) only [go_sem, Int.reduceToNat, Nat.reduceMul, Nat.reduceAdd, Nat.reduceSub]
    (first | rw [EU_region] | rw [EU_draw _ _ rfl]); simp (disch := first|exact dis|fail) only [go_sem, Int.reduceToNat, Nat.reduceMul, Nat.reduceAdd, Nat.reduceSub]
    rw [EU_bad _ _ rfl, EC_tab (tab := [(false, none), (false, none), (false, none), (false, none), (false, none), (false, none), (false, none), (true, none), (false, none), (false, none), (false, none), (false, (some (0, 1))), (false, none), (false, none)]) (by kernel_rfl)]
    simp (disch := first|exact dis|fail) only [go_sem, Int.reduceToNat, Nat.reduceMul, Nat.reduceAdd, Nat.reduceSub, ↓EU_region, ↓EU_draw, ht, Int.reduceLT, Int.reduceEq, hA, decide_true]
  obtain ⟨r, e, rfl⟩ := this
  exact e
theorem stale4_ev (q : CQ h cb qb lb mb v tag base cur l idle cage) (ht : h.get tb = .cells (tryL cb tg bs st why age bv qv f) 0) (hne : cage ≠ age) :
    EF Tryz.prog O0 35 [ptr tb 0, .int .i64 4] h = some (.int .i64 12, h) := by
  have : WPo (EF Tryz.prog O0 35 [ptr tb 0, .int .i64 4] h) fun r => r = (.int .i64 12, h) := by
    have hA := coreAge_ev q
    have hd : decide (cage = age) = false := decide_eq_false hne
    unfold tryL at *
    rw [EF_body (O := O0) (by kernel_rfl) Tryz.func35 rfl (rs := [.tmp 4]) rfl (bad := [1]) (by kernel_rfl) _ _ (m := 95) rfl]
    simp (disch := first|exact dis|fail) only [go_sem, Int.reduceToNat, Nat.reduceMul, Nat.reduceAdd, Nat.reduceSub]
    (first | rw [EU_region] | rw [EU_draw _ _ rfl]); simp (disch := first|exact dis|fail) only [go_sem, Int.reduceToNat, Nat.reduceMul, Nat.reduceAdd, Nat.reduceSub]
    rw [EU_bad _ _ rfl, EC_tab (tab := [(false, none), (false, none), (false, none), (false, none), (false, none), (false, none), (false, none), (true, none), (false, none), (false, none), (false, none), (false, (some (0, 1))), (false, none), (false, none)]) (by kernel_rfl)]
    simp (disch := first|exact dis|fail) only [go_sem, Int.reduceToNat, Nat.reduceMul, Nat.reduceAdd, Nat.reduceSub, ↓EU_region, ↓EU_draw, ht, Int.reduceLT, Int.reduceEq, hA, hd]
  obtain ⟨r, e, rfl⟩ := this
  exact e
theorem forced4_ev (q : CQ h cb qb lb mb v tag base cur l idle cage) (ht : h.get tb = .cells (tryL cb tg bs st why cage bv qv f) 0) (hf : f 4 = true) :
    EF Tryz.prog O0 35 [ptr tb 0, .int .i64 4] h = some (.int .i64 13, h) := by
  have : WPo (EF Tryz.prog O0 35 [ptr tb 0, .int .i64 4] h) fun r => r = (.int .i64 13, h) := by
    have hA := coreAge_ev q
    unfold tryL at *
    rw [hf] at ht
    rw [EF_body (O := O0) (by kernel_rfl) Tryz.func35 rfl (rs := [.tmp 4]) rfl (bad := [1]) (by kernel_rfl) _ _ (m := 95) rfl]
    simp (disch := first|exact dis|fail) only [go_sem, Int.reduceToNat, Nat.reduceMul, Nat.reduceAdd, Nat.reduceSub]
    (first | rw [EU_region] | rw [EU_draw _ _ rfl]); simp (disch := first|exact dis|fail) only [go_sem, Int.reduceToNat, Nat.reduceMul, Nat.reduceAdd, Nat.reduceSub]
    rw [EU_bad _ _ rfl, EC_tab (tab := [(false, none), (false, none), (false, none), (false, none), (false, none), (false, none), (false, none), (true, none), (false, none), (false, none), (false, none), (false, (some (0, 1))), (false, none), (false, none)]) (by kernel_rfl)]
    simp (disch := first|exact dis|fail) only [go_sem, Int.reduceToNat, Nat.reduceMul, Nat.reduceAdd, Nat.reduceSub, ↓EU_region, ↓EU_draw, ht, Int.reduceLT, Int.reduceEq, hA, decide_true]
  obtain ⟨r, e, rfl⟩ := this
  exact e
theorem stale5_ev (q : CQ h cb qb lb mb v tag base cur l idle cage) (ht : h.get tb = .cells (tryL cb tg bs st why age bv qv f) 0) (hne : cage ≠ age) :
    EF Tryz.prog O0 35 [ptr tb 0, .int .i64 5] h = some (.int .i64 12, h) := by
  have : WPo (EF Tryz.prog O0 35 [ptr tb 0, .int .i64 5] h) fun r => r = (.int .i64 12, h) := by
    have hA := coreAge_ev q
    have hd : decide (cage = age) = false := decide_eq_false hne
    unfold tryL at *
    rw [EF_body (O := O0) (by kernel_rfl) Tryz.func35 rfl (rs := [.tmp 4]) rfl (bad := [1]) (by kernel_rfl) _ _ (m := 95) rfl]
    simp (disch := first|exact dis|fail) only [go_sem, Int.reduceToNat, Nat.reduceMul, Nat.reduceAdd, Nat.reduceSub]
    (first | rw [EU_region] | rw [EU_draw _ _ rfl]); simp (disch := first|exact dis|fail) only [go_sem, Int.reduceToNat, Nat.reduceMul, Nat.reduceAdd, Nat.reduceSub]
    rw [EU_bad _ _ rfl, EC_tab (tab := [(false, none), (false, none), (false, none), (false, none), (false, none), (false, none), (false, none), (true, none), (false, none), (false, none), (false, none), (false, (some (0, 1))), (false, none), (false, none)]) (by kernel_rfl)]
    simp (disch := first|exact dis|fail) only [go_sem, Int.reduceToNat, Nat.reduceMul, Nat.reduceAdd, Nat.reduceSub, ↓EU_region, ↓EU_draw, ht, Int.reduceLT, Int.reduceEq, hA, hd]
  obtain ⟨r, e, rfl⟩ := this
  exact e
theorem forced5_ev (q : CQ h cb qb lb mb v tag base cur l idle cage) (ht : h.get tb = .cells (tryL cb tg bs st why cage bv qv f) 0) (hf : f 5 = true) :
    EF Tryz.prog O0 35 [ptr tb 0, .int .i64 5] h = some (.int .i64 13, h) := by
  have : WPo (EF Tryz.prog O0 35 [ptr tb 0, .int .i64 5] h) fun r => r = (.int .i64 13, h) := by
    have hA := coreAge_ev q
    unfold tryL at *
    rw [hf] at ht
    rw [EF_body (O := O0) (by kernel_rfl) Tryz.func35 rfl (rs := [.tmp 4]) rfl (bad := [1]) (by kernel_rfl) _ _ (m := 95) rfl]
    simp (disch := first|exact dis|fail) only [go_sem, Int.reduceToNat, Nat.reduceMul, Nat.reduceAdd, Nat.reduceSub]
    (first | rw [EU_region] | rw [EU_draw _ _ rfl]); simp (disch := first|exact dis|fail) only [go_sem, Int.reduceToNat, Nat.reduceMul, Nat.reduceAdd, Nat.reduceSub]
    rw [EU_bad _ _ rfl, EC_tab (tab := [(false, none), (false, none), (false, none), (false, none), (false, none), (false, none), (false, none), (true, none), (false, none), (false, none), (false, none), (false, (some (0, 1))), (false, none), (false, none)]) (by kernel_rfl)]
    simp (disch := first|exact dis|fail) only [go_sem, Int.reduceToNat, Nat.reduceMul, Nat.reduceAdd, Nat.reduceSub, ↓EU_region, ↓EU_draw, ht, Int.reduceLT, Int.reduceEq, hA, decide_true]
  obtain ⟨r, e, rfl⟩ := this
  exact e
theorem next2_ev (q : CQ h cb qb lb mb v tag base cur l idle cage) (ht : h.get tb = .cells (tryL cb tg bs st why cage bv qv f) 0) (hlt : tb < h.next) (hf : f 2 = false) (hl : l.length < 800000) (hw : Near base l) (hg : cgood tag cur (l.map (itP base)) = true) :
    WPo (EF Tryz.prog O0 35 [ptr tb 0, .int .i64 2] h) fun r => ∃ u, r.1 = .int .i64 0 ∧ Mod (fun i => i = tb) h r.2 ∧ r.2.get tb = .cells (tryL cb tg bs st why cage u qv f) 0 ∧ OW byteE 1 r.2 u (sealN (encF tag cur (l.map (itP base)))) ∧ Fresh h.next u := by
  have hA := coreAge_ev q
  unfold tryL at *
  rw [hf] at ht
  rw [EF_body (O := O0) (by kernel_rfl) Tryz.func35 rfl (rs := [.tmp 4]) rfl (bad := [1]) (by kernel_rfl) _ _ (m := 95) rfl]
  simp (disch := first|exact dis|fail) only [go_sem, Int.reduceToNat, Nat.reduceMul, Nat.reduceAdd, Nat.reduceSub]
  (first | rw [EU_region] | rw [EU_draw _ _ rfl]); simp (disch := first|exact dis|fail) only [go_sem, Int.reduceToNat, Nat.reduceMul, Nat.reduceAdd, Nat.reduceSub]
  rw [EU_bad _ _ rfl, EC_tab (tab := [(false, none), (false, none), (false, none), (false, none), (false, none), (false, none), (false, none), (true, none), (false, none), (false, none), (false, none), (false, (some (0, 1))), (false, none), (false, none)]) (by kernel_rfl)]
  simp (disch := first|exact dis|fail) only [go_sem, Int.reduceToNat, Nat.reduceMul, Nat.reduceAdd, Nat.reduceSub, ↓EU_region, ↓EU_draw, ht, Int.reduceLT, Int.reduceEq, hA, decide_true]
  repeat refine WPo_ob ?_
  refine (write_ev q hl hw).mono ?_
  rintro ⟨w, h1⟩ ⟨x1, _, k⟩
  obtain ⟨u, e, ou, fu⟩ := k hg
  simp only at e ou x1
  subst e
  have ht1 := (x1.old tb hlt).trans ht
  obtain ⟨au, ku, e⟩ := ou.val
  subst e
  simp (disch := first|exact dis|fail) only [go_sem, Int.reduceToNat, Nat.reduceMul, Nat.reduceAdd, Nat.reduceSub, ↓EU_region, ↓EU_draw, ht1, hf]
  refine ⟨_, trivial, (x1.mod _).set _ _ fun _ => rfl, by simp (disch := first|exact dis|fail) only [go_sem, Int.reduceToNat, Nat.reduceMul, Nat.reduceAdd, Nat.reduceSub, ↓EU_region, ↓EU_draw], ou.mod (Mod.set (S := fun j => j = tb) (Mod.refl _ _) _ _ (fun _ => rfl)) (fun j hj q => by have := fu j hj; omega), fu⟩
theorem next3_ev (q : CQ h cb qb lb mb v tag base cur l idle cage) (ht : h.get tb = .cells (tryL cb tg bs st why cage bv qv f) 0) (hlt : tb < h.next) (hf : f 3 = false) (b : List UInt8) (hs : SL byteE 1 h bv b) (hl : b.length < 600000) (hlr : (readR b).2.2.2.1.length < 900000) (htg : tgood tg = true) (hbg : bgood bs = true) (hgd : (readR b).2.2.2.2 = 0 → goodF (readR b).2.2.1 (readR b).2.2.2.1 = true) :
    WPo (EF Tryz.prog O0 35 [ptr tb 0, .int .i64 3] h) fun r => r.1 = .int .i64 (readR b).2.2.2.2 ∧ Mod (fun i => i = tb) h r.2 ∧ ∃ u, r.2.get tb = .cells (tryL cb tg bs st why cage bv u f) 0 ∧ ((readR b).2.2.2.2 = 0 → ∃ qb lb v, u = ptr qb 0 ∧ PQ r.2 qb lb v tg bs (readR b).2.2.1 ((readR b).2.2.2.1.map (ptI bs)) ∧ h.next ≤ qb ∧ h.next ≤ lb ∧ Fresh h.next v) := by
  have hA := coreAge_ev q
  unfold tryL at *
  rw [hf] at ht
  rw [EF_body (O := O0) (by kernel_rfl) Tryz.func35 rfl (rs := [.tmp 4]) rfl (bad := [1]) (by kernel_rfl) _ _ (m := 95) rfl]
  simp (disch := first|exact dis|fail) only [go_sem, Int.reduceToNat, Nat.reduceMul, Nat.reduceAdd, Nat.reduceSub]
  (first | rw [EU_region] | rw [EU_draw _ _ rfl]); simp (disch := first|exact dis|fail) only [go_sem, Int.reduceToNat, Nat.reduceMul, Nat.reduceAdd, Nat.reduceSub]
  rw [EU_bad _ _ rfl, EC_tab (tab := [(false, none), (false, none), (false, none), (false, none), (false, none), (false, none), (false, none), (true, none), (false, none), (false, none), (false, none), (false, (some (0, 1))), (false, none), (false, none)]) (by kernel_rfl)]
  simp (disch := first|exact dis|fail) only [go_sem, Int.reduceToNat, Nat.reduceMul, Nat.reduceAdd, Nat.reduceSub, ↓EU_region, ↓EU_draw, ht, Int.reduceLT, Int.reduceEq, hA, decide_true]
  repeat refine WPo_ob ?_
  refine (make_ev b bv tg bs h hs hl hlr).mono ?_
  rintro ⟨w, h1⟩ ⟨x1, _, k1, k2⟩
  have ht1 := (x1.old tb hlt).trans ht
  obtain ⟨ab, kb, e⟩ := hs.val
  subst e
  by_cases he : (readR b).2.2.2.2 = 0
  · obtain ⟨qb, lb, v, e, pq, hqb, hlb, fv⟩ := k2 htg he hbg (hgd he)
    simp only at e pq x1
    subst e
    simp (disch := first|exact dis|fail) only [go_sem, Int.reduceToNat, Nat.reduceMul, Nat.reduceAdd, Nat.reduceSub, ↓EU_region, ↓EU_draw, ht1, hf]
    refine ⟨by rw [he], (x1.mod _).set _ _ fun _ => rfl, ptr qb 0, by simp (disch := first|exact dis|fail) only [go_sem, Int.reduceToNat, Nat.reduceMul, Nat.reduceAdd, Nat.reduceSub, ↓EU_region, ↓EU_draw], fun _ => ⟨qb, lb, v, rfl, pq.mod (Mod.set (S := fun j => j = tb) (Mod.refl _ _) _ _ (fun _ => rfl)) (by omega) (by omega) (fun j hj q => by have := fv j hj; omega), hqb, hlb, fv⟩⟩
  · have e := k1 htg he
    simp only at e x1
    subst e
    unfold nilP
    simp (disch := first|exact dis|fail) only [go_sem, Int.reduceToNat, Nat.reduceMul, Nat.reduceAdd, Nat.reduceSub, ↓EU_region, ↓EU_draw, ht1, hf]
    exact ⟨trivial, (x1.mod _).set _ _ fun _ => rfl, .pointer none, by simp (disch := first|exact dis|fail) only [go_sem, Int.reduceToNat, Nat.reduceMul, Nat.reduceAdd, Nat.reduceSub, ↓EU_region, ↓EU_draw], fun h => absurd h he⟩
theorem next4_ev (q : CQ h cb qb lb mb v tag base cur l idle cage) {qb2 lb2 : Nat} {v2 : Value} {tag2 base2 cur2 : Int} {l2 : List Pnt} (q2 : PQ h qb2 lb2 v2 tag2 base2 cur2 l2) (ht : h.get tb = .cells (tryL cb tg bs st why cage bv (ptr qb2 0) f) 0) (hlt : tb < h.next) (hf : f 4 = false) (hl : l.length < 800000) (hw : Near base l) (hl2 : l2.length < 800000) (hw2 : Near base2 l2) :
    WPo (EF Tryz.prog O0 35 [ptr tb 0, .int .i64 4] h) fun r => r.1 = .int .i64 (if faultsF cur2 (l2.map (itP base2)) cur (l.map (itP base)) = [] then 0 else 11) ∧ Ext h r.2 := by
  have hA := coreAge_ev q
  unfold tryL at *
  rw [hf] at ht
  rw [EF_body (O := O0) (by kernel_rfl) Tryz.func35 rfl (rs := [.tmp 4]) rfl (bad := [1]) (by kernel_rfl) _ _ (m := 95) rfl]
  simp (disch := first|exact dis|fail) only [go_sem, Int.reduceToNat, Nat.reduceMul, Nat.reduceAdd, Nat.reduceSub]
  (first | rw [EU_region] | rw [EU_draw _ _ rfl]); simp (disch := first|exact dis|fail) only [go_sem, Int.reduceToNat, Nat.reduceMul, Nat.reduceAdd, Nat.reduceSub]
  rw [EU_bad _ _ rfl, EC_tab (tab := [(false, none), (false, none), (false, none), (false, none), (false, none), (false, none), (false, none), (true, none), (false, none), (false, none), (false, none), (false, (some (0, 1))), (false, none), (false, none)]) (by kernel_rfl)]
  simp (disch := first|exact dis|fail) only [go_sem, Int.reduceToNat, Nat.reduceMul, Nat.reduceAdd, Nat.reduceSub, ↓EU_region, ↓EU_draw, ht, Int.reduceLT, Int.reduceEq, hA, decide_true]
  repeat refine WPo_ob ?_
  refine (fits_ev q q2 hl hw hl2 hw2).mono ?_
  rintro ⟨w, h1⟩ ⟨o1, f1, x1⟩
  simp only at o1 x1
  obtain ⟨a1, k1, e⟩ := o1.val
  subst e
  revert o1 f1
  generalize faultsF cur2 (l2.map (itP base2)) cur (l.map (itP base)) = fl
  intro o1 f1
  cases fl with
  | nil =>
    have hd : decide ((0 : Int) < ((0 : Nat) : Int)) = false := rfl
    simp (disch := first|exact dis|fail) only [go_sem, Int.reduceToNat, Nat.reduceMul, Nat.reduceAdd, Nat.reduceSub, ↓EU_region, ↓EU_draw, List.length_nil, hd]
    exact ⟨by rw [if_pos trivial], x1⟩
  | cons x fl =>
    have hd : decide ((0 : Int) < ((fl.length + 1 : Nat) : Int)) = true := decide_eq_true (by omega)
    simp (disch := first|exact dis|fail) only [go_sem, Int.reduceToNat, Nat.reduceMul, Nat.reduceAdd, Nat.reduceSub, ↓EU_region, ↓EU_draw, hd]
    exact ⟨by rw [if_neg (by simp)], x1⟩
theorem next5_ev (q : CQ h cb qb lb mb v tag base cur l idle cage) {qb2 lb2 : Nat} {v2 : Value} {tag2 base2 cur2 : Int} {l2 : List Pnt} (q2 : PQ h qb2 lb2 v2 tag2 base2 cur2 l2) (ht : h.get tb = .cells (tryL cb tg bs st why cage bv (ptr qb2 0) f) 0) (hlt : tb < h.next) (hf : f 5 = false) (hl : l.length < 800000) (hw : Near base l) (hl2 : l2.length < 800000) (hw2 : Near base2 l2) :
    WPo (EF Tryz.prog O0 35 [ptr tb 0, .int .i64 5] h) fun r => if cur2 = cur ∧ l2.map (itP base2) = l.map (itP base) then r.1 = .int .i64 0 ∧ Mod (fun i => i = cb) h r.2 ∧ r.2.get cb = .cells [ptr qb2 0, .map (some mb), .int .i64 idle, .int .i64 cage] 0 else r.1 = .int .i64 4 ∧ Ext h r.2 := by
  have hA := coreAge_ev q
  unfold tryL at *
  rw [hf] at ht
  rw [EF_body (O := O0) (by kernel_rfl) Tryz.func35 rfl (rs := [.tmp 4]) rfl (bad := [1]) (by kernel_rfl) _ _ (m := 95) rfl]
  simp (disch := first|exact dis|fail) only [go_sem, Int.reduceToNat, Nat.reduceMul, Nat.reduceAdd, Nat.reduceSub]
  (first | rw [EU_region] | rw [EU_draw _ _ rfl]); simp (disch := first|exact dis|fail) only [go_sem, Int.reduceToNat, Nat.reduceMul, Nat.reduceAdd, Nat.reduceSub]
  rw [EU_bad _ _ rfl, EC_tab (tab := [(false, none), (false, none), (false, none), (false, none), (false, none), (false, none), (false, none), (true, none), (false, none), (false, none), (false, none), (false, (some (0, 1))), (false, none), (false, none)]) (by kernel_rfl)]
  simp (disch := first|exact dis|fail) only [go_sem, Int.reduceToNat, Nat.reduceMul, Nat.reduceAdd, Nat.reduceSub, ↓EU_region, ↓EU_draw, ht, Int.reduceLT, Int.reduceEq, hA, decide_true]
  repeat refine WPo_ob ?_
  refine (change_ev q q2 hl hw hl2 hw2).mono ?_
  rintro ⟨w, h1⟩ k
  by_cases hc : cur2 = cur ∧ l2.map (itP base2) = l.map (itP base)
  · rw [if_pos hc] at k
    obtain ⟨e, m1, k3⟩ := k
    simp only at e m1 k3
    subst e
    simp (disch := first|exact dis|fail) only [go_sem, Int.reduceToNat, Nat.reduceMul, Nat.reduceAdd, Nat.reduceSub, ↓EU_region, ↓EU_draw, if_pos hc]
    exact ⟨trivial, m1, k3⟩
  · rw [if_neg hc] at k
    obtain ⟨e, m1⟩ := k
    simp only at e m1
    subst e
    simp (disch := first|exact dis|fail) only [go_sem, Int.reduceToNat, Nat.reduceMul, Nat.reduceAdd, Nat.reduceSub, ↓EU_region, ↓EU_draw, if_neg hc]
    exact ⟨trivial, m1⟩
end
end Go.Proofs.YtddgcakiceodgaaGreat.EV
namespace Go.Proofs.YtddgcakiceodgaaGreat.EV
open Go Go.Proofs
set_option linter.unusedVariables false
set_option linter.unusedSimpArgs false
set_option maxRecDepth 100000
set_option pp.deepTerms false
set_option pp.deepTerms.threshold 20
theorem stageNew_ev (cb : Nat) (tag base : Int) (h : Heap) :
    WPo (EF Tryz.prog O0 9 [ptr cb 0, .int .i64 tag, .int .i64 base] h) fun q => Ext h q.2 ∧ if tgood tag && bgood base then ∃ tb, q.1 = .tuple ⟨[ptr tb 0, .int .i64 0]⟩ ∧ h.next ≤ tb ∧ tb < q.2.next ∧ q.2.get tb = .cells (tryL cb tag base 0 0 0 noS nilP fun _ => false) 0 else q.1 = .tuple ⟨[nilP, .int .i64 1]⟩ := by
  rw [EF_body (O := O0) (by kernel_rfl) Tryz.func9 rfl (rs := [.tmp 6, .tmp 7]) rfl (bad := []) (by kernel_rfl) _ _ (m := 26) rfl]
  simp (disch := first|exact dis|fail) only [go_sem, Int.reduceToNat, Nat.reduceMul, Nat.reduceAdd, Nat.reduceSub, ↓EU_region, ↓EU_draw]
  repeat refine WPo_ob ?_
  refine (polNew_ev tag base h).mono ?_
  rintro ⟨w, h1⟩ ⟨x1, k⟩
  cases hg : (tgood tag && bgood base) with
  | false =>
    rw [hg, if_neg (by decide)] at k
    simp only at k
    subst k
    unfold nilP
    simp (disch := first|exact dis|fail) only [go_sem, Int.reduceToNat, Nat.reduceMul, Nat.reduceAdd, Nat.reduceSub, ↓EU_region, ↓EU_draw, Int.reduceEq, if_false, Bool.false_eq_true]
    exact ⟨x1, trivial⟩
  | true =>
    rw [hg, if_pos rfl] at k
    obtain ⟨b, lb, e, _⟩ := k
    simp only at e
    subst e
    simp (disch := first|exact dis|fail) only [go_sem, Int.reduceToNat, Nat.reduceMul, Nat.reduceAdd, Nat.reduceSub, ↓EU_region, ↓EU_draw, if_true]
    exact ⟨x1.push _, _, rfl, x1.le, by omega, by simp (disch := first|exact dis|fail) only [go_sem, Int.reduceToNat, Nat.reduceMul, Nat.reduceAdd, Nat.reduceSub, ↓EU_region, ↓EU_draw]; rfl⟩
section
variable {cb tb : Nat} {h : Heap} {tg bs st why age : Int} {bv qv : Value} {f : Nat → Bool}
theorem stageOf_ev (ht : h.get tb = .cells (tryL cb tg bs st why age bv qv f) 0) : EF Tryz.prog O0 21 [ptr tb 0] h = some (.int .i64 st, h) := by
  have : WPo (EF Tryz.prog O0 21 [ptr tb 0] h) fun q => q = (.int .i64 st, h) := by
    unfold tryL at ht
    rw [EF_body (O := O0) (by kernel_rfl) Tryz.func21 rfl (rs := [.tmp 2]) rfl (bad := []) (by kernel_rfl) _ _ (m := 7) rfl]
    simp (disch := first|exact dis|fail) only [go_sem, Int.reduceToNat, Nat.reduceMul, Nat.reduceAdd, Nat.reduceSub, ↓EU_region, ↓EU_draw, ht]
  obtain ⟨q, e, rfl⟩ := this
  exact e
theorem stageWhy_ev (ht : h.get tb = .cells (tryL cb tg bs st why age bv qv f) 0) : EF Tryz.prog O0 16 [ptr tb 0] h = some (.int .i64 why, h) := by
  have : WPo (EF Tryz.prog O0 16 [ptr tb 0] h) fun q => q = (.int .i64 why, h) := by
    unfold tryL at ht
    rw [EF_body (O := O0) (by kernel_rfl) Tryz.func16 rfl (rs := [.tmp 2]) rfl (bad := []) (by kernel_rfl) _ _ (m := 7) rfl]
    simp (disch := first|exact dis|fail) only [go_sem, Int.reduceToNat, Nat.reduceMul, Nat.reduceAdd, Nat.reduceSub, ↓EU_region, ↓EU_draw, ht]
  obtain ⟨q, e, rfl⟩ := this
  exact e
theorem stageOver_ev (ht : h.get tb = .cells (tryL cb tg bs st why age bv qv f) 0) : EF Tryz.prog O0 34 [ptr tb 0] h = some (.bool (decide (5 ≤ st)), h) := by
  have : WPo (EF Tryz.prog O0 34 [ptr tb 0] h) fun q => q = (.bool (decide (5 ≤ st)), h) := by
    unfold tryL at ht
    rw [EF_body (O := O0) (by kernel_rfl) Tryz.func34 rfl (rs := [.tmp 2]) rfl (bad := []) (by kernel_rfl) _ _ (m := 8) rfl]
    simp (disch := first|exact dis|fail) only [go_sem, Int.reduceToNat, Nat.reduceMul, Nat.reduceAdd, Nat.reduceSub, ↓EU_region, ↓EU_draw, ht]
  obtain ⟨q, e, rfl⟩ := this
  exact e
theorem stageFail_ev (ht : h.get tb = .cells (tryL cb tg bs st why age bv qv f) 0) (e : Int) : ∃ v, EF Tryz.prog O0 36 [ptr tb 0, .int .i64 e] h = some (v, h.set tb (.cells (tryL cb tg bs 6 e age bv qv f) 0)) := by
  have : WPo (EF Tryz.prog O0 36 [ptr tb 0, .int .i64 e] h) fun q => q.2 = h.set tb (.cells (tryL cb tg bs 6 e age bv qv f) 0) := by
    unfold tryL at *
    rw [EF_body (O := O0) (by kernel_rfl) Tryz.func36 rfl (rs := []) rfl (bad := []) (by kernel_rfl) _ _ (m := 11) rfl]
    simp (disch := first|exact dis|fail) only [go_sem, Int.reduceToNat, Nat.reduceMul, Nat.reduceAdd, Nat.reduceSub, ↓EU_region, ↓EU_draw, ht]
  obtain ⟨⟨v, h1⟩, e, e1⟩ := this
  simp only at e1
  subst e1
  exact ⟨v, e⟩
theorem stageAbort_ev (ht : h.get tb = .cells (tryL cb tg bs st why age bv qv f) 0) : EF Tryz.prog O0 15 [ptr tb 0] h = some (.bool (decide (st < 5)), if 5 ≤ st then h else h.set tb (.cells (tryL cb tg bs 6 13 age bv qv f) 0)) := by
  have : WPo (EF Tryz.prog O0 15 [ptr tb 0] h) fun q => q = (.bool (decide (st < 5)), if 5 ≤ st then h else h.set tb (.cells (tryL cb tg bs 6 13 age bv qv f) 0)) := by
    obtain ⟨v, hf⟩ := stageFail_ev ht 13
    rw [EF_body (O := O0) (by kernel_rfl) Tryz.func15 rfl (rs := [.tmp 2]) rfl (bad := []) (by kernel_rfl) _ _ (m := 7) rfl]
    by_cases q : 5 ≤ st
    · have d1 : decide (5 ≤ st) = true := decide_eq_true q
      have d2 : decide (st < 5) = false := decide_eq_false (by omega)
      simp (disch := first|exact dis|fail) only [go_sem, Int.reduceToNat, Nat.reduceMul, Nat.reduceAdd, Nat.reduceSub, ↓EU_region, ↓EU_draw, stageOver_ev ht, d1, d2, if_pos q]
    · have d1 : decide (5 ≤ st) = false := decide_eq_false q
      have d2 : decide (st < 5) = true := decide_eq_true (by omega)
      simp (disch := first|exact dis|fail) only [go_sem, Int.reduceToNat, Nat.reduceMul, Nat.reduceAdd, Nat.reduceSub, ↓EU_region, ↓EU_draw, stageOver_ev ht, d1, d2, if_neg q, hf]
  obtain ⟨q, e, rfl⟩ := this
  exact e
theorem stageBytes_ev (ht : h.get tb = .cells (tryL cb tg bs st why age bv qv f) 0) {b : List UInt8} (hs : SL byteE 1 h bv b) (hl : b.length < 900000) : WPo (EF Tryz.prog O0 14 [ptr tb 0] h) fun q => OW byteE 1 q.2 q.1 b ∧ Fresh h.next q.1 ∧ Ext h q.2 := by
  unfold tryL at ht
  obtain ⟨ab, kb, e⟩ := hs.val
  subst e
  rw [EF_body (O := O0) (by kernel_rfl) Tryz.func14 rfl (rs := [.tmp 2]) rfl (bad := []) (by kernel_rfl) _ _ (m := 8) rfl]
  simp (disch := first|exact dis|fail) only [go_sem, Int.reduceToNat, Nat.reduceMul, Nat.reduceAdd, Nat.reduceSub, ↓EU_region, ↓EU_draw, ht]
  repeat refine WPo_ob ?_
  refine (clone_ev b _ h hs hl).mono ?_
  rintro ⟨w, h1⟩ ⟨o1, f1, x1⟩
  simp only at o1 f1 x1
  simp (disch := first|exact dis|fail) only [go_sem, Int.reduceToNat, Nat.reduceMul, Nat.reduceAdd, Nat.reduceSub, ↓EU_region, ↓EU_draw]
  exact ⟨o1, f1, x1⟩
theorem stepOver_ev (ht : h.get tb = .cells (tryL cb tg bs st why age bv qv f) 0) (ho : 5 ≤ st) : EF Tryz.prog O0 10 [ptr tb 0] h = some (.tuple ⟨[.int .i64 st, .int .i64 why]⟩, h) := by
  have : WPo (EF Tryz.prog O0 10 [ptr tb 0] h) fun q => q = (.tuple ⟨[.int .i64 st, .int .i64 why]⟩, h) := by
    have hO := stageOver_ev ht
    rw [decide_eq_true ho] at hO
    unfold tryL at ht
    rw [EF_body (O := O0) (by kernel_rfl) Tryz.func10 rfl (rs := [.tmp 2, .tmp 3]) rfl (bad := []) (by kernel_rfl) _ _ (m := 35) rfl]
    simp (disch := first|exact dis|fail) only [go_sem, Int.reduceToNat, Nat.reduceMul, Nat.reduceAdd, Nat.reduceSub, ↓EU_region, ↓EU_draw, ht, hO]
  obtain ⟨q, e, rfl⟩ := this
  exact e
theorem step_ev (ht : h.get tb = .cells (tryL cb tg bs st why age bv qv f) 0) (h0 : 0 ≤ st) (ho : st < 5) {R Q : Value × Heap → Prop} (hn : WPo (EF Tryz.prog O0 35 [ptr tb 0, .int .i64 (st + 1)] h) R)
    (k : ∀ r, R r → ∃ e age' bv' qv', r.1 = .int .i64 e ∧ r.2.get tb = .cells (tryL cb tg bs st why age' bv' qv' f) 0 ∧ (e = 0 → Q (.tuple ⟨[.int .i64 (st + 1), .int .i64 why]⟩, r.2.set tb (.cells (tryL cb tg bs (st + 1) why age' bv' qv' f) 0))) ∧ (e ≠ 0 → Q (.tuple ⟨[.int .i64 6, .int .i64 e]⟩, r.2.set tb (.cells (tryL cb tg bs 6 e age' bv' qv' f) 0)))) :
    WPo (EF Tryz.prog O0 10 [ptr tb 0] h) Q := by
  have hO := stageOver_ev ht
  rw [decide_eq_false (by omega)] at hO
  have hw : wrapF .i64 (st + 1) = st + 1 := wrap64 (by omega)
  rw [EF_body (O := O0) (by kernel_rfl) Tryz.func10 rfl (rs := [.tmp 2, .tmp 3]) rfl (bad := []) (by kernel_rfl) _ _ (m := 35) rfl]
  have ht' := ht
  unfold tryL at ht'
  simp (disch := first|exact dis|fail) only [go_sem, Int.reduceToNat, Nat.reduceMul, Nat.reduceAdd, Nat.reduceSub, ↓EU_region, ↓EU_draw, ht', hO, hw]
  repeat refine WPo_ob ?_
  refine hn.mono ?_
  rintro ⟨w, h1⟩ hr
  obtain ⟨e, age', bv', qv', e1, hg, k1, k2⟩ := k _ hr
  simp only at e1 hg k1 k2
  subst e1
  obtain ⟨vf, hF⟩ := stageFail_ev hg e
  unfold tryL at *
  by_cases q : e = 0
  · subst q
    simp (disch := first|exact dis|fail) only [go_sem, Int.reduceToNat, Nat.reduceMul, Nat.reduceAdd, Nat.reduceSub, ↓EU_region, ↓EU_draw, hg, hw]
    exact k1 rfl
  · have hd : decide (e = 0) = false := decide_eq_false q
    simp (disch := first|exact dis|fail) only [go_sem, Int.reduceToNat, Nat.reduceMul, Nat.reduceAdd, Nat.reduceSub, ↓EU_region, ↓EU_draw, hd, hF]
    exact k2 q
end
end Go.Proofs.YtddgcakiceodgaaGreat.EV
namespace Go.Proofs.YtddgcakiceodgaaGreat.EV
open Go Go.Proofs
set_option linter.unusedVariables false
set_option linter.unusedSimpArgs false
theorem ifF_nil (b : Bool) (f : Flt) : ifF b f = [] ↔ b = false := by cases b <;> simp [ifF]
theorem flts_nil (id : Int) (p : Option Item) (x : Item) : flts id (chks p x) = [] ↔ (imay x && !ordBad p x) = true := by
  have e1 : imay x = (!idBad x && (wgood x.w && !lagBad x)) := by
    unfold imay idBad lagBad
    have a1 : decide (x.id < 0) = !decide (0 ≤ x.id) := by by_cases h : 0 ≤ x.id <;> simp [h, Int.not_lt.2, Int.not_le.1] <;> omega
    have a2 : decide (1073741824 < x.id) = !decide (x.id ≤ 1073741824) := by by_cases h : x.id ≤ 1073741824 <;> simp [h] <;> omega
    have a3 : decide (x.lag < -1125899906842624) = !decide (-1125899906842624 ≤ x.lag) := by by_cases h : -1125899906842624 ≤ x.lag <;> simp [h] <;> omega
    have a4 : decide (1125899906842624 < x.lag) = !decide (x.lag ≤ 1125899906842624) := by by_cases h : x.lag ≤ 1125899906842624 <;> simp [h] <;> omega
    rw [a1, a2, a3, a4]
    cases decide (0 ≤ x.id) <;> cases decide (x.id ≤ 1073741824) <;> cases wgood x.w <;> cases decide (-1125899906842624 ≤ x.lag) <;> cases decide (x.lag ≤ 1125899906842624) <;> rfl
  rw [e1]
  unfold flts chks
  cases idBad x <;> cases ordBad p x <;> cases wgood x.w <;> cases lagBad x <;> simp
theorem fGo_nil : ∀ (p : Option Item) (l : List Item), fGo p l = [] ↔ ordOk p l = true
  | none, [] => by simp [fGo, ordOk]
  | some y, [] => by simp [fGo, ordOk]
  | none, x :: l => by
    simp only [fGo, List.append_eq_nil_iff, flts_nil, fGo_nil (some x) l, ordOk, ordBad, Bool.not_false, Bool.and_true, Bool.and_eq_true]
  | some y, x :: l => by
    have e : ordBad (some y) x = !decide (y.id < x.id) := by
      unfold ordBad
      by_cases h : y.id < x.id <;> simp [h] <;> omega
    simp only [fGo, List.append_eq_nil_iff, flts_nil, fGo_nil (some x) l, ordOk, e, Bool.not_not, Bool.and_eq_true, and_assoc]
theorem formF_nil (c : Int) (l : List Item) : formF c l = [] ↔ goodF c l = true := by
  unfold formF goodF
  simp only [List.append_eq_nil_iff, fGo_nil, ifF_nil]
  have h1 : l.all neg = !l.any lagOk := by
    rw [List.all_eq_not_any_not]
    congr 2
    funext x
    unfold neg lagOk
    by_cases h : x.lag < 0 <;> simp [h] <;> omega
  rw [h1]
  by_cases h64 : l.length ≤ 64
  · have d1 : decide (64 < (l.length : Int)) = false := decide_eq_false (by omega)
    rw [d1, decide_eq_true h64]
    by_cases h0 : l.length = 0
    · have d2 : decide ((l.length : Int) > 0) = false := decide_eq_false (by omega)
      rw [d2, decide_eq_true h0]
      cases ordOk none l <;> cases l.any (byId c) <;> cases decide (c = -1) <;> simp
    · have d2 : decide ((l.length : Int) > 0) = true := decide_eq_true (by omega)
      rw [d2, decide_eq_false h0]
      cases ordOk none l <;> cases l.any (byId c) <;> cases decide (c = -1) <;> cases l.any lagOk <;> simp
  · have d1 : decide (64 < (l.length : Int)) = true := decide_eq_true (by omega)
    rw [d1, decide_eq_false h64]
    simp
theorem len0 {α : Type} (l : List α) : decide ((l.length : Int) = 0) = true ↔ l = [] := by
  rw [decide_eq_true_eq]
  constructor
  · intro h; exact List.length_eq_zero_iff.1 (by omega)
  · rintro rfl; rfl
theorem form_good (c : Int) (l : List Item) : decide (((formF c l).length : Int) = 0) = goodF c l := by
  rw [Bool.eq_iff_iff, len0, formF_nil]
/-- in order -/
noncomputable def Ord (l : List Item) : Prop := l.Pairwise fun x y => x.id < y.id
theorem ordOk_ord : ∀ (p : Option Item) (l : List Item), ordOk p l = true → Ord l ∧ ∀ y, p = some y → ∀ x ∈ l, y.id < x.id
  | _, [], _ => ⟨List.Pairwise.nil, fun _ _ _ h => by cases h⟩
  | none, x :: l, h => by
    simp only [ordOk, Bool.and_eq_true] at h
    obtain ⟨h1, h2⟩ := ordOk_ord (some x) l h.2
    exact ⟨List.Pairwise.cons (h2 x rfl) h1, fun y e => by cases e⟩
  | some y, x :: l, h => by
    simp only [ordOk, Bool.and_eq_true, decide_eq_true_eq] at h
    obtain ⟨h1, h2⟩ := ordOk_ord (some x) l h.2.2
    refine ⟨List.Pairwise.cons (h2 x rfl) h1, fun z e w hw => ?_⟩
    cases e
    rcases List.mem_cons.1 hw with rfl | hw
    · exact h.2.1
    · exact Int.lt_trans h.2.1 (h2 x rfl w hw)
theorem good_ord {c : Int} {l : List Item} (h : goodF c l = true) : Ord l := by
  unfold goodF at h
  simp only [Bool.and_eq_true] at h
  exact (ordOk_ord none l h.2.2.1).1
theorem ord_uniq {l : List Item} (h : Ord l) : ∀ x ∈ l, ∀ y ∈ l, x.id = y.id → x = y := by
  induction l with
  | nil => intro x hx; cases hx
  | cons a l ih =>
    obtain ⟨h1, h2⟩ := List.pairwise_cons.1 h
    intro x hx y hy e
    rcases List.mem_cons.1 hx with e1 | e1 <;> rcases List.mem_cons.1 hy with e2 | e2
    · rw [e1, e2]
    · have := h1 y e2; rw [e1] at e; omega
    · have := h1 x e1; rw [e2] at e; omega
    · exact ih h2 x e1 y e2 e
theorem ord_ext : ∀ (l m : List Item), Ord l → Ord m → (∀ x, x ∈ l ↔ x ∈ m) → l = m
  | [], [], _, _, _ => rfl
  | [], b :: m, _, _, h => by have := (h b).2 (List.mem_cons_self ..); cases this
  | a :: l, [], _, _, h => by have := (h a).1 (List.mem_cons_self ..); cases this
  | a :: l, b :: m, hl, hm, h => by
    obtain ⟨l1, l2⟩ := List.pairwise_cons.1 hl
    obtain ⟨m1, m2⟩ := List.pairwise_cons.1 hm
    have e : a = b := by
      rcases List.mem_cons.1 ((h a).1 (List.mem_cons_self ..)) with q | q
      · exact q
      · rcases List.mem_cons.1 ((h b).2 (List.mem_cons_self ..)) with r | r
        · exact r.symm
        · have := m1 a q; have := l1 b r; omega
    subst e
    rw [ord_ext l m l2 m2 fun x => ?_]
    constructor
    · intro hx
      rcases List.mem_cons.1 ((h x).1 (List.mem_cons_of_mem _ hx)) with q | q
      · subst q; have := l1 x hx; omega
      · exact q
    · intro hx
      rcases List.mem_cons.1 ((h x).2 (List.mem_cons_of_mem _ hx)) with q | q
      · subst q; have := m1 x hx; omega
      · exact q
theorem any_id {l : List Item} {i : Int} : l.any (byId i) = true ↔ ∃ x ∈ l, x.id = i := by
  rw [List.any_eq_true]
  simp [byId]
theorem fndR_mem {l : List Item} {i : Int} (h : l.any (byId i) = true) : fndR i l ∈ l ∧ (fndR i l).id = i := by
  obtain ⟨k, x, e1, e2, e3⟩ := idx_any h
  unfold fndR
  rw [e3]
  have := List.find?_some e3
  simp only [byId, decide_eq_true_eq] at this
  exact ⟨List.mem_of_getElem? e2, this⟩
theorem fndR_of {l : List Item} (ho : Ord l) {x : Item} (hx : x ∈ l) : l.any (byId x.id) = true ∧ fndR x.id l = x := by
  have h : l.any (byId x.id) = true := any_id.2 ⟨x, hx, rfl⟩
  obtain ⟨h1, h2⟩ := fndR_mem h
  exact ⟨h, ord_uniq ho _ h1 _ hx h2⟩
theorem wantF_nil {l : List Item} {x : Item} : wantF l x = [] ↔ x ∈ l ∧ fndR x.id l = x ∨ l.any (byId x.id) = true ∧ fndR x.id l = x := by
  unfold wantF
  cases h : l.any (byId x.id) with
  | false =>
    rw [if_neg (by simp)]
    constructor
    · intro e; cases e
    · rintro (⟨hx, _⟩ | ⟨e, _⟩)
      · have := any_id.2 ⟨x, hx, rfl⟩; rw [h] at this; cases this
      · cases e
  | true =>
    rw [if_pos rfl]
    obtain ⟨h1, h2⟩ := fndR_mem h
    simp only [List.append_eq_nil_iff, ifF_nil, Bool.not_eq_false', decide_eq_true_eq]
    constructor
    · rintro ⟨a, b⟩
      refine .inr ⟨trivial, ?_⟩
      generalize fndR x.id l = y at *
      cases x; cases y
      simp only at h2 a b
      subst h2; subst a; subst b; rfl
    · rintro (⟨_, e⟩ | ⟨_, e⟩) <;> (rw [e]; exact ⟨rfl, rfl⟩)
theorem flat_nil {α β : Type} {f : α → List β} {l : List α} : l.flatMap f = [] ↔ ∀ x ∈ l, f x = [] := by
  rw [List.flatMap_eq_nil_iff]
theorem diffF_nil {c1 c2 : Int} {l m : List Item} (hl : Ord l) (hm : Ord m) : diffF c1 l c2 m = [] ↔ c1 = c2 ∧ l = m := by
  unfold diffF
  simp only [List.append_eq_nil_iff, ifF_nil, Bool.not_eq_false', decide_eq_true_eq, flat_nil]
  constructor
  · rintro ⟨⟨h1, h2⟩, h3⟩
    refine ⟨h3, ord_ext l m hl hm fun x => ?_⟩
    have sub : ∀ y ∈ m, y ∈ l := fun y hy => by
      rcases wantF_nil.1 (h1 y hy) with ⟨q, _⟩ | ⟨q, e⟩
      · exact q
      · rw [← e]; exact (fndR_mem q).1
    refine ⟨fun hx => ?_, sub x⟩
    have := h2 x hx
    unfold gotF at this
    rw [ifF_nil, Bool.not_eq_false'] at this
    obtain ⟨y, hy, e⟩ := any_id.1 this
    rw [← ord_uniq hl y (sub y hy) x hx e]
    exact hy
  · rintro ⟨rfl, rfl⟩
    refine ⟨⟨fun x hx => wantF_nil.2 (.inl ⟨hx, (fndR_of hl hx).2⟩), fun x hx => ?_⟩, rfl⟩
    unfold gotF
    rw [ifF_nil, (fndR_of hl hx).1]
    rfl
theorem faults_same {c1 c2 : Int} {l m : List Item} (hg : goodF c2 m = true) : decide (((faultsF c1 l c2 m).length : Int) = 0) = (decide (c1 = c2) && decide (l = m)) := by
  rw [Bool.eq_iff_iff, len0]
  simp only [Bool.and_eq_true, decide_eq_true_eq]
  unfold faultsF
  by_cases h : formF c1 l = []
  · rw [h, if_neg (by simp)]
    exact diffF_nil (good_ord ((formF_nil c1 l).1 h)) (good_ord hg)
  · have hlen : decide (((formF c1 l).length : Int) > 0) = true := by
      rw [decide_eq_true_eq]
      have : (formF c1 l).length ≠ 0 := fun e => h (List.length_eq_zero_iff.1 e)
      omega
    rw [if_pos hlen]
    constructor
    · intro e; exact (h e).elim
    · rintro ⟨rfl, rfl⟩
      exact ((h ((formF_nil _ _).2 hg))).elim
end Go.Proofs.YtddgcakiceodgaaGreat.EV
namespace Go.Proofs.YtddgcakiceodgaaGreat.EV
open Go Go.Proofs
set_option linter.unusedVariables false
set_option linter.unusedSimpArgs false
set_option maxRecDepth 100000
set_option pp.deepTerms false
set_option pp.deepTerms.threshold 20
theorem readR_encF {tag cur : Int} {l : List Item} (h : cgood tag cur l = true) : readR (sealN (encF tag cur l)) = (3, tag, cur, l, 0) := by
  have hv : versionN (encF tag cur l) = some 3 := rfl
  have h3 : 3 ≤ (encF tag cur l).length := by rw [encF_len]; omega
  have e1 : readR (sealN (encF tag cur l)) = (3, bodyV 3 (encF tag cur l)) := by
    unfold readR
    rw [openN_seal]
    dsimp only
    rw [hv]; rfl
  have e2 : openR (sealN (encF tag cur l)) = ((encF tag cur l).drop 3, 3, 0) := by
    unfold openR
    rw [openN_seal]
    dsimp only
    rw [hv]
  have e3 := getR_enc h
  unfold getR at e3
  rw [e2, if_neg (by simp), if_neg (by simp)] at e3
  rw [e1, bodyV_3 h3]
  rw [show bodyR ((encF tag cur l).drop 3) = (tag, cur, l, 0) from e3]
theorem faultsF_nil {cur : Int} {l : List Item} (h : goodF cur l = true) : faultsF cur l cur l = [] := by
  have := faults_same (c1 := cur) (l := l) h
  rw [decide_eq_true rfl, decide_eq_true rfl, Bool.and_self, decide_eq_true_eq] at this
  exact List.length_eq_zero_iff.1 (by omega)
theorem near_good {base cur : Int} {l : List Item} (h : goodF cur l = true) : Near base (l.map (ptI base)) := fun p hp => by
  obtain ⟨x, hx, rfl⟩ := List.mem_map.1 hp
  have := lnMay_facts (lnGood_may h x hx)
  have e : (ptI base x).v = base - x.lag := rfl
  rw [e]
  omega
theorem itP_inj {base : Int} {l m : List Item} (h : l.map (ptI base) = m.map (ptI base)) : l = m := by
  have := congrArg (List.map (itP base)) h
  rwa [map_itP_ptI, map_itP_ptI] at this
section
variable {cb tb : Nat} {h : Heap} {tg bs st why age : Int} {bv qv : Value} {f : Nat → Bool}
theorem PQ.modT {b lb : Nat} {v : Value} {tag base cur : Int} {l : List Pnt} {h' : Heap} (q : PQ h b lb v tag base cur l) (ht : h.get tb = .cells (tryL cb tg bs st why age bv qv f) 0) (m : Mod (fun j => j = tb) h h') : PQ h' b lb v tag base cur l := by
  refine q.mod m (fun e => ?_) (fun e => ?_) (fun j hj e => ?_)
  · have := q.gb; rw [e, ht] at this; unfold tryL at this; cases this
  · have := q.lq.gb; rw [e, ht] at this; unfold tryL at this; cases this
  · rw [e] at hj; exact ow_ne q.lq.ow ht (by decide) hj
theorem CQ.tne {qb lb mb : Nat} {v : Value} {tag base cur : Int} {l : List Pnt} {idle cage : Int} {c : Nat} (q : CQ h c qb lb mb v tag base cur l idle cage) (ht : h.get tb = .cells (tryL cb tg bs st why age bv qv f) 0) : c ≠ tb := fun e => by
  have := q.gb; rw [e, ht] at this; unfold tryL at this; cases this
theorem CQ.modT {qb lb mb : Nat} {v : Value} {tag base cur : Int} {l : List Pnt} {idle cage : Int} {c : Nat} {h' : Heap} (q : CQ h c qb lb mb v tag base cur l idle cage) (ht : h.get tb = .cells (tryL cb tg bs st why age bv qv f) 0) (m : Mod (fun j => j = tb) h h') : CQ h' c qb lb mb v tag base cur l idle cage := by
  refine ⟨Nat.lt_of_lt_of_le q.lt m.le, (m.old c q.lt (q.tne ht)).trans q.gb, Nat.lt_of_lt_of_le q.ml m.le, q.mp.mod q.ml m fun e => ?_, q.pq.modT ht m⟩
  exact q.mne ht e.symm
theorem OW.modT {b : List UInt8} {u : Value} {h' : Heap} (o : OW byteE 1 h u b) (ht : h.get tb = .cells (tryL cb tg bs st why age bv qv f) 0) (m : Mod (fun j => j = tb) h h') : OW byteE 1 h' u b :=
  o.mod m fun j hj e => by rw [e] at hj; exact ow_ne o ht (by decide) hj
theorem setM (h : Heap) (tb : Nat) (x : Blk) : Mod (fun j => j = tb) h (h.set tb x) := Mod.set (Mod.refl _ h) tb x fun _ => rfl
end
noncomputable def noF : Nat → Bool := fun _ => false
/-- after so many steps -/
structure KF (cb tb : Nat) (tag to base cur : Int) (l : List Item) (i : Nat) (h : Heap) : Prop where
  tl : tb < h.next
  sp : ∃ bv qv, h.get tb = .cells (tryL cb to base ((min i 5 : Nat) : Int) 0 0 bv qv noF) 0 ∧
    (∃ qb lb mb v bs, CQ h cb qb lb mb v (if i < 5 then tag else to) bs cur (l.map (ptI bs)) 0 0 ∧ bgood bs = true) ∧ (i < 2 → bv = noS) ∧ (2 ≤ i → OW byteE 1 h bv (sealN (encF tag cur l))) ∧ (i = 3 ∨ i = 4 → ∃ qb lb v, qv = ptr qb 0 ∧ PQ h qb lb v to base cur (l.map (ptI base)))
theorem KF.ext {cb tb : Nat} {tag to base cur : Int} {l : List Item} {i : Nat} {h h' : Heap} (k : KF cb tb tag to base cur l i h) (x : Ext h h') : KF cb tb tag to base cur l i h' := by
  obtain ⟨tl, bv, qv, h1, ⟨qb, lb, mb, v, bs, h2, hbb⟩, h3, h4, h5⟩ := k
  refine ⟨Nat.lt_of_lt_of_le tl x.le, bv, qv, (x.old tb tl).trans h1, ⟨qb, lb, mb, v, bs, h2.ext x, hbb⟩, h3, fun h => (h4 h).ext x, fun h => ?_⟩
  obtain ⟨qb, lb, v, e, p⟩ := h5 h
  exact ⟨qb, lb, v, e, p.ext x⟩
theorem kstep {cb tb : Nat} {tag to base cur : Int} {l : List Item} {i : Nat} {h : Heap} (k : KF cb tb tag to base cur l i h) (hg : cgood tag cur l = true) (hto : tgood to = true) (hb : bgood base = true) :
    WPo (EF Tryz.prog O0 10 [ptr tb 0] h) fun q => q.1 = .tuple ⟨[.int .i64 ((min (i + 1) 5 : Nat) : Int), .int .i64 0]⟩ ∧ KF cb tb tag to base cur l (i + 1) q.2 ∧ Mod (fun j => j = tb ∨ j = cb) h q.2 := by
  have hgf := (cgood_facts hg).2.2
  have hlen := lnGood_len hgf
  obtain ⟨tl, bv, qv, ht, ⟨qb, lb, mb, v, bs, cq, hbb⟩, hbv, hbo, hq⟩ := k
  have hn := fun b => near_good (base := b) hgf
  have orL : ∀ {a b : Heap}, Mod (fun j => j = tb) a b → Mod (fun j => j = tb ∨ j = cb) a b := fun m => m.mono fun _ _ e => .inl e
  have orR : ∀ {a b : Heap}, Mod (fun j => j = cb) a b → Mod (fun j => j = tb ∨ j = cb) a b := fun m => m.mono fun _ _ e => .inr e
  match i with
  | 0 =>
    refine step_ev ht (by decide) (by decide) (next1_ev cq ht) ?_
    rintro r hr
    rw [if_neg (by decide)] at hr
    subst hr
    refine ⟨0, 0, bv, qv, rfl, get_set_same _ _ _, fun _ => ⟨rfl, ⟨by simp only [next_set]; exact tl, bv, qv, by rw [get_set_same]; rfl, ⟨qb, lb, mb, v, bs, ?_, hbb⟩, fun _ => hbv (by decide), fun h => absurd h (by decide), fun h => absurd h (by omega)⟩, ?_⟩, fun h => absurd rfl h⟩
    · rw [set_set]
      exact cq.modT ht (setM _ _ _)
    · rw [set_set]
      exact orL (setM _ _ _)
  | 1 =>
    have N := next2_ev cq ht tl rfl (by rw [List.length_map]; omega) (hn bs) (by rw [map_itP_ptI]; exact hg)
    rw [map_itP_ptI] at N
    refine step_ev ht (by decide) (by decide) N ?_
    rintro ⟨w, h1⟩ ⟨u, e, m, g1, ou, fu⟩
    simp only at e m g1 ou fu
    subst e
    refine ⟨0, 0, u, qv, rfl, g1, fun _ => ⟨rfl, ⟨by simp only [next_set]; exact Nat.lt_of_lt_of_le tl m.le, u, qv, by rw [get_set_same]; rfl, ⟨qb, lb, mb, v, bs, (cq.modT ht m).modT g1 (setM _ _ _), hbb⟩, fun h => absurd h (by decide), fun _ => ou.modT g1 (setM _ _ _), fun h => absurd h (by omega)⟩, (orL m).trans (orL (setM _ _ _))⟩, fun h => absurd rfl h⟩
  | 2 =>
    have hL : (sealN (encF tag cur l)).length < 600000 := by rw [sealN_len, encF_len]; omega
    have hr := readR_encF hg
    have N := next3_ev cq ht tl rfl (sealN (encF tag cur l)) (hbo (by decide)).sl hL (by rw [hr]; show l.length < _; omega) hto hb (by rw [hr]; exact fun _ => hgf)
    rw [hr] at N
    refine step_ev ht (by decide) (by decide) N ?_
    rintro ⟨w, h1⟩ ⟨e, m, u, g1, k⟩
    simp only at e m g1 k
    subst e
    obtain ⟨qb2, lb2, v2, e, p2, _⟩ := k trivial
    refine ⟨0, 0, bv, u, rfl, g1, fun _ => ⟨rfl, ⟨by simp only [next_set]; exact Nat.lt_of_lt_of_le tl m.le, bv, u, by rw [get_set_same]; rfl, ⟨qb, lb, mb, v, bs, (cq.modT ht m).modT g1 (setM _ _ _), hbb⟩, fun h => absurd h (by decide), fun _ => ((hbo (by decide)).modT ht m).modT g1 (setM _ _ _), fun _ => ⟨qb2, lb2, v2, e, p2.modT g1 (setM _ _ _)⟩⟩, (orL m).trans (orL (setM _ _ _))⟩, fun h => absurd rfl h⟩
  | 3 =>
    obtain ⟨qb2, lb2, v2, e, p2⟩ := hq (.inl rfl)
    subst e
    have N := next4_ev cq p2 ht tl rfl (by rw [List.length_map]; omega) (hn bs) (by rw [List.length_map]; omega) (hn base)
    rw [map_itP_ptI, map_itP_ptI, faultsF_nil hgf, if_pos rfl] at N
    refine step_ev ht (by decide) (by decide) N ?_
    rintro ⟨w, h1⟩ ⟨e, x⟩
    simp only at e x
    subst e
    have g1 := (x.old tb tl).trans ht
    refine ⟨0, 0, bv, ptr qb2 0, rfl, g1, fun _ => ⟨rfl, ⟨by simp only [next_set]; exact Nat.lt_of_lt_of_le tl x.le, bv, ptr qb2 0, by rw [get_set_same]; rfl, ⟨qb, lb, mb, v, bs, (cq.ext x).modT g1 (setM _ _ _), hbb⟩, fun h => absurd h (by decide), fun _ => ((hbo (by decide)).ext x).modT g1 (setM _ _ _), fun _ => ⟨qb2, lb2, v2, rfl, (p2.ext x).modT g1 (setM _ _ _)⟩⟩, (x.mod _).trans (orL (setM _ _ _))⟩, fun h => absurd rfl h⟩
  | 4 =>
    obtain ⟨qb2, lb2, v2, e, p2⟩ := hq (.inr rfl)
    subst e
    have N := next5_ev cq p2 ht tl rfl (by rw [List.length_map]; omega) (hn bs) (by rw [List.length_map]; omega) (hn base)
    rw [map_itP_ptI, map_itP_ptI] at N
    refine step_ev ht (by decide) (by decide) N ?_
    rintro ⟨w, h1⟩ k
    rw [if_pos ⟨rfl, rfl⟩] at k
    obtain ⟨e, m, g⟩ := k
    simp only at e m g
    subst e
    have g1 := (m.old tb tl fun e => cq.tne ht e.symm).trans ht
    have c1 : CQ h1 cb qb2 lb2 mb v2 to base cur (l.map (ptI base)) 0 0 := ⟨Nat.lt_of_lt_of_le cq.lt m.le, g, Nat.lt_of_lt_of_le cq.ml m.le, cq.mp.mod cq.ml m fun e => cq.mne cq.gb e.symm, p2.mod m (fun e => by have := p2.gb; rw [e, cq.gb] at this; cases this) (fun e => by have := p2.lq.gb; rw [e, cq.gb] at this; cases this) (fun j hj e => by rw [e] at hj; exact ow_ne p2.lq.ow cq.gb (by decide) hj)⟩
    have o1 : OW byteE 1 h1 bv (sealN (encF tag cur l)) := (hbo (by decide)).mod m fun j hj e => by rw [e] at hj; exact ow_ne (hbo (by decide)) cq.gb (by decide) hj
    refine ⟨0, 0, bv, ptr qb2 0, rfl, g1, fun _ => ⟨rfl, ⟨by simp only [next_set]; exact Nat.lt_of_lt_of_le tl m.le, bv, ptr qb2 0, by rw [get_set_same]; rfl, ⟨qb2, lb2, mb, v2, base, c1.modT g1 (setM _ _ _), hb⟩, fun h => absurd h (by decide), fun _ => o1.modT g1 (setM _ _ _), fun h => absurd h (by omega)⟩, (orR m).trans (orL (setM _ _ _))⟩, fun h => absurd rfl h⟩
  | i + 5 =>
    have e5 : min (i + 5) 5 = 5 := by omega
    have e6 : min (i + 5 + 1) 5 = 5 := by omega
    rw [e5] at ht
    rw [if_neg (by omega)] at cq
    refine ⟨_, stepOver_ev ht (by decide), by rw [e6], ⟨tl, bv, qv, by rw [e6]; exact ht, ⟨qb, lb, mb, v, bs, by rw [if_neg (by omega)]; exact cq, hbb⟩, fun h => absurd h (by omega), fun _ => hbo (by omega), fun h => absurd h (by omega)⟩, Mod.refl _ _⟩
end Go.Proofs.YtddgcakiceodgaaGreat.EV
namespace Go.Proofs.YtddgcakiceodgaaGreat.EV
open Go Go.Proofs
set_option linter.unusedVariables false
set_option linter.unusedSimpArgs false
set_option maxRecDepth 100000
set_option pp.deepTerms false
set_option pp.deepTerms.threshold 20
theorem fill_ev (tag cur : Int) (l : List Item) (s : Value) (h : Heap) (hs : SL itemE 3 h s l) (hl : l.length < 900000) :
    WPo (EF Tryz.prog O0 8 [.int .i64 tag, formV cur s] h) fun q => Ext h q.2 ∧ if tgood tag && goodF cur l then ∃ cb qb lb mb v, q.1 = ptr cb 0 ∧ CQ q.2 cb qb lb mb v tag 0 cur (l.map (ptI 0)) 0 0 ∧ h.next ≤ cb ∧ h.next ≤ qb ∧ h.next ≤ lb ∧ h.next ≤ mb ∧ Fresh h.next v else q.1 = nilP := by
  have hS := coreSeed_ev tag 0 cur l s (h.push (.cells [.int .i64 cur, s] 0)) (hs.ext ((Ext.refl h).push _)) hl
  rw [show bgood 0 = true by decide, Bool.true_and] at hS
  unfold formV at *
  rw [EF_body (O := O0) (by kernel_rfl) Tryz.func8 rfl (rs := [.tmp 4]) rfl (bad := []) (by kernel_rfl) _ _ (m := 16) rfl]
  simp (disch := first|exact dis|fail) only [go_sem, Int.reduceToNat, Nat.reduceMul, Nat.reduceAdd, Nat.reduceSub, ↓EU_region, ↓EU_draw]
  repeat refine WPo_ob ?_
  refine hS.mono ?_
  rintro ⟨w, h1⟩ ⟨x1, k⟩
  have xh : Ext h h1 := ((Ext.refl h).push _).trans x1
  cases hg : (tgood tag && goodF cur l) with
  | false =>
    rw [hg, if_neg (by decide)] at k
    simp only at k
    subst k
    unfold nilP
    simp (disch := first|exact dis|fail) only [go_sem, Int.reduceToNat, Nat.reduceMul, Nat.reduceAdd, Nat.reduceSub, ↓EU_region, ↓EU_draw, Int.reduceEq, if_false, Bool.false_eq_true]
    exact ⟨xh, trivial⟩
  | true =>
    rw [hg, if_pos rfl] at k
    obtain ⟨cb, qb, lb, mb, v, e, cq, h1, h2, h3, h4, fv⟩ := k
    simp only at e cq
    simp only [next_push] at h1 h2 h3 h4 fv
    subst e
    simp (disch := first|exact dis|fail) only [go_sem, Int.reduceToNat, Nat.reduceMul, Nat.reduceAdd, Nat.reduceSub, ↓EU_region, ↓EU_draw, if_true]
    exact ⟨xh, cb, qb, lb, mb, v, rfl, cq, by omega, by omega, by omega, by omega, fv.mono (by omega)⟩
end Go.Proofs.YtddgcakiceodgaaGreat.EV
namespace Go.Proofs.YtddgcakiceodgaaGreat.EV
open Go Go.Proofs
set_option linter.unusedVariables false
set_option linter.unusedSimpArgs false
set_option maxRecDepth 100000
set_option pp.deepTerms false
set_option pp.deepTerms.threshold 20
noncomputable def lnCmp (a b : Int) : Int := if a < b then -1 else if b < a then 1 else 0
theorem lnCmp_ev (a b : Int) (h : Heap) : EF Tryz.prog O0 136 [.int .i64 a, .int .i64 b] h = some (.int .i64 (lnCmp a b), h) := by
  have : WPo (EF Tryz.prog O0 136 [.int .i64 a, .int .i64 b] h) fun q => q = (.int .i64 (lnCmp a b), h) := by
    unfold lnCmp
    have dn : ∀ x : Int, decide (x = x) = true := fun x => decide_eq_true rfl
    have hn : ∀ (x : Int) (h : Heap), EF Tryz.prog O0 139 [.int .i64 x] h = some (.bool false, h) := fun x h => by
      have : WPo (EF Tryz.prog O0 139 [.int .i64 x] h) fun q => q = (.bool false, h) := by
        rw [EF_body (O := O0) (by kernel_rfl) Tryz.func139 rfl (rs := [.tmp 2]) rfl (bad := []) (by kernel_rfl) _ _ (m := 6) rfl]
        simp (disch := first|exact dis|fail) only [go_sem, Int.reduceToNat, Nat.reduceMul, Nat.reduceAdd, Nat.reduceSub, ↓EU_region, ↓EU_draw, dn]
      obtain ⟨q, e, rfl⟩ := this
      exact e
    rw [EF_body (O := O0) (by kernel_rfl) Tryz.func136 rfl (rs := [.tmp 4]) rfl (bad := []) (by kernel_rfl) _ _ (m := 20) rfl]
    by_cases q1 : a < b
    · have d1 : decide (a < b) = true := decide_eq_true q1
      rw [if_pos q1]
      simp (disch := first|exact dis|fail) only [go_sem, Int.reduceToNat, Nat.reduceMul, Nat.reduceAdd, Nat.reduceSub, ↓EU_region, ↓EU_draw, hn, d1]
    · have d1 : decide (a < b) = false := decide_eq_false q1
      rw [if_neg q1]
      by_cases q2 : b < a
      · have d2 : decide (b < a) = true := decide_eq_true q2
        rw [if_pos q2]
        simp (disch := first|exact dis|fail) only [go_sem, Int.reduceToNat, Nat.reduceMul, Nat.reduceAdd, Nat.reduceSub, ↓EU_region, ↓EU_draw, hn, d1, d2]
      · have d2 : decide (b < a) = false := decide_eq_false q2
        rw [if_neg q2]
        simp (disch := first|exact dis|fail) only [go_sem, Int.reduceToNat, Nat.reduceMul, Nat.reduceAdd, Nat.reduceSub, ↓EU_region, ↓EU_draw, hn, d1, d2]
  obtain ⟨q, e, rfl⟩ := this
  exact e
theorem lnCmp_neg (a b : Int) : lnCmp a b < 0 ↔ a < b := by
  unfold lnCmp
  split
  · omega
  · split <;> omega
noncomputable def byPid (id : Int) (x : Pnt) : Bool := decide (x.id = id)
theorem lnFind1_ev (x : Pnt) (id : Int) (b : Nat) (h : Heap) (hb : b < h.next) (hx : rdc1 (h.get b) 0 = some (.int .i64 id)) : Pu (EF Tryz.prog O0 138 [.agg ⟨pntE x⟩, ptr b 0] h) h (.bool (byPid id x)) := by
  unfold Pu pntE byPid
  rw [EF_body (O := O0) (by kernel_rfl) Tryz.func138 rfl (rs := [.tmp 3]) rfl (bad := []) (by kernel_rfl) _ _ (m := 8) rfl]
  simp (disch := first|exact dis|fail) only [go_sem, Int.reduceToNat, Nat.reduceMul, Nat.reduceAdd, Nat.reduceSub, ↓EU_region, ↓EU_draw, hx]
  exact ⟨trivial, by repeat (first | exact Ext.refl _ | assumption | refine Ext.push ?_ _ | refine Ext.set ?_ _ _ (by first | omega | (simp only [next_push, next_set]; omega)))⟩
theorem lnIndex_ev (l : List Pnt) (s : Value) (p : Pnt → Bool) (g : FuncId) (y : List Value) (h : Heap) (hs : SL pntE 4 h s l) (hl : l.length < 900000)
    (hp : ∀ x ∈ l, ∀ h', Ext h h' → Pu (EF Tryz.prog O0 g (.agg ⟨pntE x⟩ :: y) h') h' (.bool (p x))) :
    Pu (EF Tryz.prog O0 137 [s, .func (.func g) ⟨[]⟩ ⟨y⟩] h) h (.int .i64 (idx p l)) := by
  unfold Pu
  rw [EF_body (O := O0) (by kernel_rfl) Tryz.func137 rfl (rs := [.tmp 4]) rfl (bad := []) (by kernel_rfl) _ _ (m := 19) rfl]
  obtain ⟨a, c, hv⟩ := hs.val
  subst hv
  simp (disch := first|exact dis|fail) only [go_sem, Int.reduceToNat, Nat.reduceMul, Nat.reduceAdd, Nat.reduceSub, ↓EU_region, ↓EU_draw]
  repeat refine WPo_ob ?_
  refine (LP_rule (fun m st => ∃ i tm h1, st = ⟨tm, h1, []⟩ ∧ m = l.length - i ∧ i ≤ l.length ∧ Fr.get tm 0 = .slice a l.length c ∧ Fr.get tm 1 = .func (.func g) ⟨[]⟩ ⟨y⟩ ∧ Fr.get tm 7 = .int .i64 l.length ∧ Fr.get tm 8 = .int .i64 i ∧ Ext h h1 ∧ ∀ j y, j < i → l[j]? = some y → p y = false)
    (fun q => ∃ tm h1, q.2 = ⟨tm, h1, []⟩ ∧ Ext h h1 ∧ ((q.1 = .exit 0 ∧ idx p l = -1) ∨ (q.1 = .ret ∧ Fr.get tm 4 = .int .i64 (idx p l)))) ?_ l.length _ _ ?_ ?_).mono ?_
  · rintro m _ ⟨i, tm, h1, rfl, rfl, hi, g0, g1, g7, g8, x1, hn⟩
    simp (disch := first|exact dis|fail) only [go_sem, Int.reduceToNat, Nat.reduceMul, Nat.reduceAdd, Nat.reduceSub, ↓EU_region, ↓EU_draw, g0, g1, g7, g8]
    ((repeat refine WPo_ob ?_); (first | refine WPo_cond (fun hb => ?_) (fun hb => ?_) | refine WPo_gard (fun hb => ?_) (fun hb => ?_) | refine WPo_gardT (fun hb => ?_) (fun hb => ?_)) <;> (try simp only [Bool.not_eq_true', Bool.not_eq_false'] at hb))
    · simp only [decide_eq_true_eq] at hb
      have hi' : i < l.length := by omega
      obtain ⟨x, hx⟩ : ∃ x, l[i]? = some x := ⟨_, List.getElem?_eq_getElem hi'⟩
      obtain ⟨b, o, c', e, hb', hr, _⟩ := (hs.ext x1).at hx rfl
      cases e
      simp (disch := first|exact dis|fail) only [go_sem, Int.reduceToNat, Nat.reduceMul, Nat.reduceAdd, Nat.reduceSub, ↓EU_region, ↓EU_draw, g0, g1, g7, g8, hr]
      repeat refine WPo_ob ?_
      refine (hp x (List.mem_of_getElem? hx) h1 x1).mono ?_
      rintro ⟨v, h2⟩ ⟨rfl, x2⟩
      simp (disch := first|exact dis|fail) only [go_sem, Int.reduceToNat, Nat.reduceMul, Nat.reduceAdd, Nat.reduceSub, ↓EU_region, ↓EU_draw, g0, g1, g7, g8, hr]
      ((repeat refine WPo_ob ?_); (first | refine WPo_cond (fun hq => ?_) (fun hq => ?_) | refine WPo_gard (fun hq => ?_) (fun hq => ?_) | refine WPo_gardT (fun hq => ?_) (fun hq => ?_)) <;> (try simp only [Bool.not_eq_true', Bool.not_eq_false'] at hq))
      · simp (disch := first|exact dis|fail) only [go_sem, Int.reduceToNat, Nat.reduceMul, Nat.reduceAdd, Nat.reduceSub, ↓EU_region, ↓EU_draw, g0, g1, g7, g8, hr]
        exact ⟨_, _, rfl, x1.trans x2, .inr ⟨trivial, by simp (disch := first|exact dis|fail) only [go_sem, Int.reduceToNat, Nat.reduceMul, Nat.reduceAdd, Nat.reduceSub, ↓EU_region, ↓EU_draw]; rw [idx_hit hx hq hn]⟩⟩
      · simp (disch := first|exact dis|fail) only [go_sem, Int.reduceToNat, Nat.reduceMul, Nat.reduceAdd, Nat.reduceSub, ↓EU_region, ↓EU_draw, g0, g1, g7, g8, hr]
        refine ⟨_, by omega, i + 1, _, _, rfl, rfl, by omega, by simp (disch := first|exact dis|fail) only [go_sem, Int.reduceToNat, Nat.reduceMul, Nat.reduceAdd, Nat.reduceSub, ↓EU_region, ↓EU_draw, g0], by simp (disch := first|exact dis|fail) only [go_sem, Int.reduceToNat, Nat.reduceMul, Nat.reduceAdd, Nat.reduceSub, ↓EU_region, ↓EU_draw, g1], by simp (disch := first|exact dis|fail) only [go_sem, Int.reduceToNat, Nat.reduceMul, Nat.reduceAdd, Nat.reduceSub, ↓EU_region, ↓EU_draw, g7], by simp (disch := first|exact dis|fail) only [go_sem, Int.reduceToNat, Nat.reduceMul, Nat.reduceAdd, Nat.reduceSub, ↓EU_region, ↓EU_draw], x1.trans x2, fun j y hj hy => ?_⟩
        rcases Nat.lt_succ_iff_lt_or_eq.1 hj with hj | rfl
        · exact hn j y hj hy
        · rw [hx] at hy; cases hy; exact hq
    · simp only [decide_eq_false_iff_not] at hb
      simp (disch := first|exact dis|fail) only [go_sem, Int.reduceToNat, Nat.reduceMul, Nat.reduceAdd, Nat.reduceSub, ↓EU_region, ↓EU_draw]
      exact ⟨_, _, rfl, x1, .inl ⟨trivial, idx_miss fun j y hj => hn j y (by omega)⟩⟩
  · exact ⟨0, _, _, rfl, rfl, by omega, by simp (disch := first|exact dis|fail) only [go_sem, Int.reduceToNat, Nat.reduceMul, Nat.reduceAdd, Nat.reduceSub, ↓EU_region, ↓EU_draw], by simp (disch := first|exact dis|fail) only [go_sem, Int.reduceToNat, Nat.reduceMul, Nat.reduceAdd, Nat.reduceSub, ↓EU_region, ↓EU_draw], by simp (disch := first|exact dis|fail) only [go_sem, Int.reduceToNat, Nat.reduceMul, Nat.reduceAdd, Nat.reduceSub, ↓EU_region, ↓EU_draw], by simp (disch := first|exact dis|fail) only [go_sem, Int.reduceToNat, Nat.reduceMul, Nat.reduceAdd, Nat.reduceSub, ↓EU_region, ↓EU_draw]; rfl, Ext.refl _, fun j y hj => absurd hj (Nat.not_lt_zero _)⟩
  · omega
  · rintro ⟨q, _⟩ ⟨tm, h1, rfl, x1, ⟨rfl, e⟩ | ⟨rfl, e⟩⟩
    · simp (disch := first|exact dis|fail) only [go_sem, Int.reduceToNat, Nat.reduceMul, Nat.reduceAdd, Nat.reduceSub, ↓EU_region, ↓EU_draw]
      rw [e]
      exact ⟨rfl, x1⟩
    · simp (disch := first|exact dis|fail) only [go_sem, Int.reduceToNat, Nat.reduceMul, Nat.reduceAdd, Nat.reduceSub, ↓EU_region, ↓EU_draw, e]
      exact ⟨trivial, x1⟩
section
variable {b : Nat} {v : Value} {base cur : Int} {l : List Pnt} {h : Heap}
theorem lnFind_ev (q : LQ h b v base cur l) (hl : l.length < 900000) (id : Int) : Pu (EF Tryz.prog O0 132 [ptr b 0, .int .i64 id] h) h (.int .i64 (idx (byPid id) l)) := by
  have g := q.gb
  have hb := q.lt
  unfold Pu
  rw [EF_body (O := O0) (by kernel_rfl) Tryz.func132 rfl (rs := [.tmp 4]) rfl (bad := []) (by kernel_rfl) _ _ (m := 11) rfl]
  obtain ⟨a, c, hv⟩ := q.ow.val
  subst hv
  simp (disch := first|exact dis|fail) only [go_sem, Int.reduceToNat, Nat.reduceMul, Nat.reduceAdd, Nat.reduceSub, ↓EU_region, ↓EU_draw, g]
  repeat refine WPo_ob ?_
  refine (lnIndex_ev l _ (byPid id) _ _ _ (q.ow.sl.ext ((Ext.refl _).push _)) hl fun x _ h' e => lnFind1_ev x id _ h' ?_ ?_).mono ?_
  · have := e.le; simp only [next_push] at this; omega
  · simp (disch := first|exact dis|fail) only [go_sem, Int.reduceToNat, Nat.reduceMul, Nat.reduceAdd, Nat.reduceSub, ↓EU_region, ↓EU_draw, e.old]
  · rintro ⟨v, h2⟩ ⟨rfl, x2⟩
    simp (disch := first|exact dis|fail) only [go_sem, Int.reduceToNat, Nat.reduceMul, Nat.reduceAdd, Nat.reduceSub, ↓EU_region, ↓EU_draw]
    exact ⟨trivial, ((Ext.refl _).push _).trans x2⟩
theorem lnLeast1_ev (x y : Pnt) (h : Heap) : Pu (EF Tryz.prog O0 135 [.agg ⟨pntE x⟩, .agg ⟨pntE y⟩] h) h (.int .i64 (lnCmp x.v y.v)) := by
  unfold Pu pntE
  rw [EF_body (O := O0) (by kernel_rfl) Tryz.func135 rfl (rs := [.tmp 4]) rfl (bad := []) (by kernel_rfl) _ _ (m := 10) rfl]
  simp (disch := first|exact dis|fail) only [go_sem, Int.reduceToNat, Nat.reduceMul, Nat.reduceAdd, Nat.reduceSub, ↓EU_region, ↓EU_draw, lnCmp_ev]
  exact ⟨trivial, by repeat (first | exact Ext.refl _ | assumption | refine Ext.push ?_ _ | refine Ext.set ?_ _ _ (by first | omega | (simp only [next_push, next_set]; omega)))⟩
end
noncomputable def minP : Pnt → List Pnt → Pnt
  | m, [] => m
  | m, x :: l => minP (if x.v < m.v then x else m) l
theorem lnMin_ev (x0 : Pnt) (l : List Pnt) (s : Value) (h : Heap) (hs : SL pntE 4 h s (x0 :: l)) (hl : l.length < 900000) :
    WPo (EF Tryz.prog O0 134 [s, .func (.func 135) ⟨[]⟩ ⟨[]⟩] h) fun q => q.1 = .agg ⟨pntE (minP x0 l)⟩ ∧ Ext h q.2 := by
  rw [EF_body (O := O0) (by kernel_rfl) Tryz.func134 rfl (rs := [.cell 4 155]) rfl (bad := []) (by kernel_rfl) _ _ (m := 33) rfl]
  obtain ⟨b, o, c, e, hb, hrd, hr⟩ := hs.at (i := 0) rfl rfl
  subst e
  have d0 : decide (((l.length + 1 : Nat) : Int) < 1) = false := decide_eq_false (by omega)
  rw [Nat.zero_mul, Nat.add_zero] at hrd
  have hLl : (x0 :: l).length = l.length + 1 := rfl
  simp (disch := first|exact dis|fail) only [go_sem, Int.reduceToNat, Nat.reduceMul, Nat.reduceAdd, Nat.reduceSub, ↓EU_region, ↓EU_draw, d0, hrd]
  obtain ⟨L, hL⟩ : ∃ L, L = x0 :: l := ⟨_, rfl⟩
  rw [← hL] at hs hLl
  have hdr : minP x0 l = minP x0 (L.drop 1) := by rw [hL]; rfl
  rw [hdr]
  repeat refine WPo_ob ?_
  refine (LP_rule (fun n st => ∃ (i : Nat) (tm : Fr) (h2 : Heap) (m : Pnt), st = ⟨tm, h2, []⟩ ∧ n = l.length + 1 - i ∧ i ≤ l.length + 1 ∧ Fr.get tm 0 = .slice (some ⟨b, o, none⟩) (l.length + 1) c ∧ Fr.get tm 1 = .func (.func 135) ⟨[]⟩ ⟨[]⟩ ∧ Fr.get tm 4 = ptr h.next 0 ∧ Fr.get tm 5 = ptr (h.next + 1) 0 ∧ Fr.get tm 6 = .int .i64 i ∧ h2.get (h.next + 1) = .cells (pntE m) 0 ∧ h2.get h.next = .cells [.int .i64 0, .int .i64 0, .int .i64 0, .int .i64 0] 0 ∧ h.next + 1 < h2.next ∧ Ext h h2 ∧ minP x0 (L.drop 1) = minP m (L.drop i))
    (fun q => ∃ tm h2, q.2 = ⟨tm, h2, []⟩ ∧ q.1 = .exit 0 ∧ Fr.get tm 4 = ptr h.next 0 ∧ Fr.get tm 5 = ptr (h.next + 1) 0 ∧ h2.get (h.next + 1) = .cells (pntE (minP x0 (L.drop 1))) 0 ∧ h2.get h.next = .cells [.int .i64 0, .int .i64 0, .int .i64 0, .int .i64 0] 0 ∧ Ext h h2) ?_ l.length _ _ ?_ ?_).mono ?_
  · rintro n _ ⟨i, tm, h2, m, rfl, rfl, hi, g0, g1, g4, g5, g6, hM, hZ, hn, x2, hm⟩
    simp (disch := first|exact dis|fail) only [go_sem, Int.reduceToNat, Nat.reduceMul, Nat.reduceAdd, Nat.reduceSub, ↓EU_region, ↓EU_draw, g0, g6]
    ((repeat refine WPo_ob ?_); (first | refine WPo_cond (fun b1 => ?_) (fun b1 => ?_) | refine WPo_gard (fun b1 => ?_) (fun b1 => ?_) | refine WPo_gardT (fun b1 => ?_) (fun b1 => ?_)) <;> (try simp only [Bool.not_eq_true', Bool.not_eq_false'] at b1))
    · have b1' := b1
      simp only [decide_eq_true_eq] at b1'
      have hi' : i < L.length := by omega
      obtain ⟨x, hx⟩ : ∃ x, L[i]? = some x := ⟨_, List.getElem?_eq_getElem hi'⟩
      obtain ⟨b', o', c', e, hb', hrx, _⟩ := (hs.ext x2).at hx rfl
      rw [hLl] at e
      cases e
      have hwi : wrapF .i64 ((i : Int) + 1) = ((i + 1 : Nat) : Int) := by rw [wrap64 (by omega)]; omega
      have hm' : minP x0 (L.drop 1) = minP (if x.v < m.v then x else m) (L.drop (i + 1)) := by rw [hm, drop_at hx]; rfl
      simp (disch := first|exact dis|fail) only [go_sem, Int.reduceToNat, Nat.reduceMul, Nat.reduceAdd, Nat.reduceSub, ↓EU_region, ↓EU_draw, g0, g1, g4, g5, g6, hrx, hM]
      repeat refine WPo_ob ?_
      refine (lnLeast1_ev x m h2).bind fun h3 x3 => ?_
      have hM3 := (x3.old _ hn).trans hM
      have hZ3 := (x3.old h.next (by omega)).trans hZ
      have hrx3 : rdc (h3.get b) (o + i * 4) 4 = some (pntE x) := by rw [x3.old _ hb']; exact hrx
      have hn3 := x3.le
      by_cases q : x.v < m.v
      · have d1 : decide (lnCmp x.v m.v < 0) = true := decide_eq_true ((lnCmp_neg _ _).2 q)
        rw [if_pos q] at hm'
        simp (disch := first|exact dis|fail) only [go_sem, Int.reduceToNat, Nat.reduceMul, Nat.reduceAdd, Nat.reduceSub, ↓EU_region, ↓EU_draw, g0, g1, g4, g5, g6, hrx3, hM3, d1, hwi]
        exact ⟨_, by omega, i + 1, _, _, x, rfl, rfl, by omega, by simp (disch := first|exact dis|fail) only [go_sem, Int.reduceToNat, Nat.reduceMul, Nat.reduceAdd, Nat.reduceSub, ↓EU_region, ↓EU_draw, g0], by simp (disch := first|exact dis|fail) only [go_sem, Int.reduceToNat, Nat.reduceMul, Nat.reduceAdd, Nat.reduceSub, ↓EU_region, ↓EU_draw, g1], by simp (disch := first|exact dis|fail) only [go_sem, Int.reduceToNat, Nat.reduceMul, Nat.reduceAdd, Nat.reduceSub, ↓EU_region, ↓EU_draw, g4], by simp (disch := first|exact dis|fail) only [go_sem, Int.reduceToNat, Nat.reduceMul, Nat.reduceAdd, Nat.reduceSub, ↓EU_region, ↓EU_draw, g5], by simp (disch := first|exact dis|fail) only [go_sem, Int.reduceToNat, Nat.reduceMul, Nat.reduceAdd, Nat.reduceSub, ↓EU_region, ↓EU_draw], get_set_same _ _ _, by rw [get_set_ne _ (by omega)]; exact hZ3, by rw [next_set]; omega, (x2.trans x3).set _ _ (by omega), hm'⟩
      · have d1 : decide (lnCmp x.v m.v < 0) = false := decide_eq_false fun e => q ((lnCmp_neg _ _).1 e)
        rw [if_neg q] at hm'
        simp (disch := first|exact dis|fail) only [go_sem, Int.reduceToNat, Nat.reduceMul, Nat.reduceAdd, Nat.reduceSub, ↓EU_region, ↓EU_draw, g0, g1, g4, g5, g6, hM3, d1, hwi]
        exact ⟨_, by omega, i + 1, _, _, m, rfl, rfl, by omega, by simp (disch := first|exact dis|fail) only [go_sem, Int.reduceToNat, Nat.reduceMul, Nat.reduceAdd, Nat.reduceSub, ↓EU_region, ↓EU_draw, g0], by simp (disch := first|exact dis|fail) only [go_sem, Int.reduceToNat, Nat.reduceMul, Nat.reduceAdd, Nat.reduceSub, ↓EU_region, ↓EU_draw, g1], by simp (disch := first|exact dis|fail) only [go_sem, Int.reduceToNat, Nat.reduceMul, Nat.reduceAdd, Nat.reduceSub, ↓EU_region, ↓EU_draw, g4], by simp (disch := first|exact dis|fail) only [go_sem, Int.reduceToNat, Nat.reduceMul, Nat.reduceAdd, Nat.reduceSub, ↓EU_region, ↓EU_draw, g5], by simp (disch := first|exact dis|fail) only [go_sem, Int.reduceToNat, Nat.reduceMul, Nat.reduceAdd, Nat.reduceSub, ↓EU_region, ↓EU_draw], hM3, hZ3, by omega, x2.trans x3, hm'⟩
    · simp only [decide_eq_false_iff_not] at b1
      have : i = L.length := by omega
      subst this
      rw [List.drop_length] at hm
      simp (disch := first|exact dis|fail) only [go_sem, Int.reduceToNat, Nat.reduceMul, Nat.reduceAdd, Nat.reduceSub, ↓EU_region, ↓EU_draw]
      exact ⟨_, _, rfl, trivial, by simp (disch := first|exact dis|fail) only [go_sem, Int.reduceToNat, Nat.reduceMul, Nat.reduceAdd, Nat.reduceSub, ↓EU_region, ↓EU_draw, g4], by simp (disch := first|exact dis|fail) only [go_sem, Int.reduceToNat, Nat.reduceMul, Nat.reduceAdd, Nat.reduceSub, ↓EU_region, ↓EU_draw, g5], by rw [hm]; exact hM, hZ, x2⟩
  · exact ⟨1, _, _, x0, rfl, by omega, by omega, by simp (disch := first|exact dis|fail) only [go_sem, Int.reduceToNat, Nat.reduceMul, Nat.reduceAdd, Nat.reduceSub, ↓EU_region, ↓EU_draw], by simp (disch := first|exact dis|fail) only [go_sem, Int.reduceToNat, Nat.reduceMul, Nat.reduceAdd, Nat.reduceSub, ↓EU_region, ↓EU_draw], by simp (disch := first|exact dis|fail) only [go_sem, Int.reduceToNat, Nat.reduceMul, Nat.reduceAdd, Nat.reduceSub, ↓EU_region, ↓EU_draw], by simp (disch := first|exact dis|fail) only [go_sem, Int.reduceToNat, Nat.reduceMul, Nat.reduceAdd, Nat.reduceSub, ↓EU_region, ↓EU_draw], by simp (disch := first|exact dis|fail) only [go_sem, Int.reduceToNat, Nat.reduceMul, Nat.reduceAdd, Nat.reduceSub, ↓EU_region, ↓EU_draw]; rfl, by simp (disch := first|exact dis|fail) only [go_sem, Int.reduceToNat, Nat.reduceMul, Nat.reduceAdd, Nat.reduceSub, ↓EU_region, ↓EU_draw], by simp (disch := first|exact dis|fail) only [go_sem, Int.reduceToNat, Nat.reduceMul, Nat.reduceAdd, Nat.reduceSub, ↓EU_region, ↓EU_draw], by simp only [next_push, next_set]; omega, by repeat (first | exact Ext.refl _ | assumption | refine Ext.push ?_ _ | refine Ext.set ?_ _ _ (by first | omega | (simp only [next_push, next_set]; omega))), rfl⟩
  · omega
  · rintro ⟨q, _⟩ ⟨tm, h2, rfl, rfl, g4, g5, hM, hZ, x2⟩
    simp (disch := first|exact dis|fail) only [go_sem, Int.reduceToNat, Nat.reduceMul, Nat.reduceAdd, Nat.reduceSub, ↓EU_region, ↓EU_draw, g4, g5, hM, hZ]
    exact ⟨trivial, x2.set _ _ (Nat.le_refl _)⟩
/-- the least, of none: zeroes -/
noncomputable def leastP (l : List Pnt) : Pnt := match l with
  | [] => ⟨0, 0, 0, 0⟩
  | x :: l => minP x l
noncomputable def someP (l : List Pnt) : Bool := !decide (l.length = 0)
theorem lnLeast_ev {b : Nat} {v : Value} {base cur : Int} {l : List Pnt} {h : Heap} (q : LQ h b v base cur l) (hl : l.length < 900000) : Pu (EF Tryz.prog O0 131 [ptr b 0] h) h (.tuple ⟨[.agg ⟨pntE (leastP l)⟩, .bool (someP l)]⟩) := by
  have g := q.gb
  have hb := q.lt
  unfold Pu
  rw [EF_body (O := O0) (by kernel_rfl) Tryz.func131 rfl (rs := [.cell 2 155, .tmp 3]) rfl (bad := []) (by kernel_rfl) _ _ (m := 16) rfl]
  cases l with
  | nil =>
    obtain ⟨a, c, hv⟩ := q.ow.val
    subst hv
    have hd : decide (((0 : Nat) : Int) = 0) = true := rfl
    simp (disch := first|exact dis|fail) only [go_sem, Int.reduceToNat, Nat.reduceMul, Nat.reduceAdd, Nat.reduceSub, ↓EU_region, ↓EU_draw, g, hd]
    exact ⟨rfl, by repeat (first | exact Ext.refl _ | assumption | refine Ext.push ?_ _ | refine Ext.set ?_ _ _ (by first | omega | (simp only [next_push, next_set]; omega)))⟩
  | cons x l =>
    obtain ⟨a, c, hv⟩ := q.ow.val
    subst hv
    have hd : decide (((l.length + 1 : Nat) : Int) = 0) = false := decide_eq_false (by omega)
    simp (disch := first|exact dis|fail) only [go_sem, Int.reduceToNat, Nat.reduceMul, Nat.reduceAdd, Nat.reduceSub, ↓EU_region, ↓EU_draw, g, hd]
    repeat refine WPo_ob ?_
    refine (lnMin_ev x l _ _ (q.ow.sl.ext ((Ext.refl _).push _)) (by simp only [List.length_cons] at hl; omega)).mono ?_
    rintro ⟨w, h1⟩ ⟨e, x1⟩
    simp only at e x1
    subst e
    have hn := x1.le
    rw [next_push] at hn
    have hc : h1.get h.next = .cells [.int .i64 0, .int .i64 0, .int .i64 0, .int .i64 0] 0 := by simp (disch := first|exact dis|fail) only [go_sem, Int.reduceToNat, Nat.reduceMul, Nat.reduceAdd, Nat.reduceSub, ↓EU_region, ↓EU_draw, x1.old]
    simp (disch := first|exact dis|fail) only [go_sem, Int.reduceToNat, Nat.reduceMul, Nat.reduceAdd, Nat.reduceSub, ↓EU_region, ↓EU_draw, hc]
    exact ⟨rfl, (((Ext.refl h).push _).trans x1).set _ _ (Nat.le_refl _)⟩
end Go.Proofs.YtddgcakiceodgaaGreat.EV
