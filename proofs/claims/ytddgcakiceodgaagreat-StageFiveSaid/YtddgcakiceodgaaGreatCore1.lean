/- Contracts: core.of, Seed, Tag, Age, Form. No condition. -/
import Derived.Test.YtddgcakiceodgaaGreatPol3
import Derived.Test.YtddgcakiceodgaaGreatMap
namespace Go.Proofs.YtddgcakiceodgaaGreat.EV
open Go Go.Proofs
set_option linter.unusedVariables false
set_option linter.unusedSimpArgs false
set_option maxRecDepth 100000
set_option pp.deepTerms false
set_option pp.deepTerms.threshold 20
/-- a map of whole numbers -/
noncomputable def NMap (h : Heap) (mb : Nat) : Prop := ∃ es clk f, h.get mb = .map es clk ∧ MR es clk f ∧ ∀ k v, f k = some v → ∃ n, v = .int .i64 n
/-- a core -/
structure CQ (h : Heap) (cb qb lb mb : Nat) (v : Value) (tag base cur : Int) (l : List Pnt) (idle age : Int) : Prop where
  lt : cb < h.next
  gb : h.get cb = .cells [ptr qb 0, .map (some mb), .int .i64 idle, .int .i64 age] 0
  ml : mb < h.next
  mp : NMap h mb
  pq : PQ h qb lb v tag base cur l
theorem NMap.mod {h h' : Heap} {mb : Nat} {S : Nat → Prop} (m : NMap h mb) (hl : mb < h.next) (x : Mod S h h') (hs : ¬ S mb) : NMap h' mb := by
  obtain ⟨es, clk, f, h1, h2, h3⟩ := m
  exact ⟨es, clk, f, (x.old mb hl hs).trans h1, h2, h3⟩
theorem CQ.mod {S : Nat → Prop} {h h' : Heap} {cb qb lb mb : Nat} {v : Value} {tag base cur : Int} {l : List Pnt} {idle age : Int} (q : CQ h cb qb lb mb v tag base cur l idle age) (x : Mod S h h') (h1 : ¬ S cb) (h2 : ¬ S qb) (h3 : ¬ S lb) (h4 : ¬ S mb) (h5 : ∀ i, blkOf v i → ¬ S i) : CQ h' cb qb lb mb v tag base cur l idle age :=
  ⟨Nat.lt_of_lt_of_le q.lt x.le, (x.old cb q.lt h1).trans q.gb, Nat.lt_of_lt_of_le q.ml x.le, q.mp.mod q.ml x h4, q.pq.mod x h2 h3 h5⟩
theorem CQ.ext {h h' : Heap} {cb qb lb mb : Nat} {v : Value} {tag base cur : Int} {l : List Pnt} {idle age : Int} (q : CQ h cb qb lb mb v tag base cur l idle age) (x : Ext h h') : CQ h' cb qb lb mb v tag base cur l idle age :=
  q.mod (x.mod fun _ => False) (fun q => q) (fun q => q) (fun q => q) (fun q => q) fun _ _ q => q
theorem CQ.mne {h : Heap} {cb qb lb mb : Nat} {v : Value} {tag base cur : Int} {l : List Pnt} {idle age : Int} (q : CQ h cb qb lb mb v tag base cur l idle age) {b : Nat} {cs : List Value} {e : Nat} (hb : h.get b = .cells cs e) : b ≠ mb := fun k => by
  obtain ⟨es, clk, f, h1, _⟩ := q.mp
  rw [← k, hb] at h1
  cases h1
theorem coreOf_ev (p : Option Addr) (e : Int) (h : Heap) : WPo (EF Tryz.prog O0 54 [.pointer p, .int .i64 e] h) fun q => Ext h q.2 ∧ if e = 0 then ∃ cb mb, q.1 = .tuple ⟨[ptr cb 0, .int .i64 0]⟩ ∧ h.next ≤ cb ∧ h.next ≤ mb ∧ cb < q.2.next ∧ mb < q.2.next ∧ q.2.get cb = .cells [.pointer p, .map (some mb), .int .i64 0, .int .i64 0] 0 ∧ NMap q.2 mb else q.1 = .tuple ⟨[nilP, .int .i64 e]⟩ := by
  rw [EF_body (O := O0) (by kernel_rfl) Tryz.func54 rfl (rs := [.tmp 4, .tmp 5]) rfl (bad := []) (by kernel_rfl) _ _ (m := 13) rfl]
  simp (maxSteps := 1000000) (disch := first | decide | omega | (simp only [go_sem]; first | done | omega)) only [go_sem, Int.reduceToNat, Nat.reduceMul, Nat.reduceAdd, Nat.reduceSub, ↓EU_region, ↓EU_draw]
  ((repeat refine WPo_ob ?_); (first | refine WPo_cond (fun b1 => ?_) (fun b1 => ?_) | refine WPo_gard (fun b1 => ?_) (fun b1 => ?_) | refine WPo_gardT (fun b1 => ?_) (fun b1 => ?_)) <;> (try simp only [Bool.not_eq_true', Bool.not_eq_false'] at b1))
  · simp only [decide_eq_false_iff_not] at b1
    simp (maxSteps := 1000000) (disch := first | decide | omega | (simp only [go_sem]; first | done | omega)) only [go_sem, Int.reduceToNat, Nat.reduceMul, Nat.reduceAdd, Nat.reduceSub, ↓EU_region, ↓EU_draw, if_neg b1]
    exact ⟨by repeat (first | exact Ext.refl _ | assumption | refine Ext.push ?_ _ | refine Ext.set ?_ _ _ (by first | omega | (simp only [next_push, next_set]; omega))), rfl⟩
  · simp only [decide_eq_true_eq] at b1
    subst b1
    simp (maxSteps := 1000000) (disch := first | decide | omega | (simp only [go_sem]; first | done | omega)) only [go_sem, Int.reduceToNat, Nat.reduceMul, Nat.reduceAdd, Nat.reduceSub, ↓EU_region, ↓EU_draw, if_true]
    exact ⟨by repeat (first | exact Ext.refl _ | assumption | refine Ext.push ?_ _ | refine Ext.set ?_ _ _ (by first | omega | (simp only [next_push, next_set]; omega))), h.next + 1, h.next, rfl, Nat.le_succ _, Nat.le_refl _, by omega, by omega, by simp (maxSteps := 1000000) (disch := first | decide | omega | (simp only [go_sem]; first | done | omega)) only [go_sem, Int.reduceToNat, Nat.reduceMul, Nat.reduceAdd, Nat.reduceSub, ↓EU_region, ↓EU_draw], ⟨[], 0, _, by simp (maxSteps := 1000000) (disch := first | decide | omega | (simp only [go_sem]; first | done | omega)) only [go_sem, Int.reduceToNat, Nat.reduceMul, Nat.reduceAdd, Nat.reduceSub, ↓EU_region, ↓EU_draw], MR.nil, fun k v e => (by cases e)⟩⟩
theorem coreSeed_ev (tag base cur : Int) (l : List Item) (s : Value) (h : Heap) (hs : SL itemE 3 h s l) (hl : l.length < 900000) :
    WPo (EF Tryz.prog O0 32 [.int .i64 tag, formV cur s, .int .i64 base] h) fun q => Ext h q.2 ∧ if tgood tag && (bgood base && goodF cur l) then ∃ cb qb lb mb v, q.1 = .tuple ⟨[ptr cb 0, .int .i64 0]⟩ ∧ CQ q.2 cb qb lb mb v tag base cur (l.map (ptI base)) 0 0 ∧ h.next ≤ cb ∧ h.next ≤ qb ∧ h.next ≤ lb ∧ h.next ≤ mb ∧ Fresh h.next v else q.1 = .tuple ⟨[nilP, .int .i64 1]⟩ := by
  have hS := polSeed_ev tag base cur l s (h.push (.cells [.int .i64 cur, s] 0)) (hs.ext ((Ext.refl h).push _)) hl
  unfold formV at *
  rw [EF_body (O := O0) (by kernel_rfl) Tryz.func32 rfl (rs := [.tmp 6, .tmp 7]) rfl (bad := []) (by kernel_rfl) _ _ (m := 17) rfl]
  simp (maxSteps := 1000000) (disch := first | decide | omega | (simp only [go_sem]; first | done | omega)) only [go_sem, Int.reduceToNat, Nat.reduceMul, Nat.reduceAdd, Nat.reduceSub, ↓EU_region, ↓EU_draw]
  repeat refine WPo_ob ?_
  refine hS.mono ?_
  rintro ⟨w, h1⟩ ⟨x1, k⟩
  have xh : Ext h h1 := ((Ext.refl h).push _).trans x1
  cases hg : (tgood tag && (bgood base && goodF cur l)) with
  | false =>
    rw [hg, if_neg (by decide)] at k
    simp only at k
    subst k
    unfold nilP
    simp (maxSteps := 1000000) (disch := first | decide | omega | (simp only [go_sem]; first | done | omega)) only [go_sem, Int.reduceToNat, Nat.reduceMul, Nat.reduceAdd, Nat.reduceSub, ↓EU_region, ↓EU_draw]
    repeat refine WPo_ob ?_
    refine (coreOf_ev none 1 h1).mono ?_
    rintro ⟨w, h2⟩ ⟨x2, k⟩
    rw [if_neg (by decide)] at k
    simp only at k
    subst k
    simp (maxSteps := 1000000) (disch := first | decide | omega | (simp only [go_sem]; first | done | omega)) only [go_sem, Int.reduceToNat, Nat.reduceMul, Nat.reduceAdd, Nat.reduceSub, ↓EU_region, ↓EU_draw, if_false, Bool.false_eq_true]
    exact ⟨xh.trans x2, rfl⟩
  | true =>
    rw [hg, if_pos rfl] at k
    obtain ⟨qb, lb, v, e, pq, hqb, hlb, fv⟩ := k
    simp only at e pq
    subst e
    simp only [next_push] at hqb hlb fv
    simp (maxSteps := 1000000) (disch := first | decide | omega | (simp only [go_sem]; first | done | omega)) only [go_sem, Int.reduceToNat, Nat.reduceMul, Nat.reduceAdd, Nat.reduceSub, ↓EU_region, ↓EU_draw]
    repeat refine WPo_ob ?_
    refine (coreOf_ev (some ⟨qb, 0, none⟩) 0 h1).mono ?_
    rintro ⟨w, h2⟩ ⟨x2, k⟩
    rw [if_pos rfl] at k
    obtain ⟨cb, mb, e, hb, hb2, hb3, hb4, hb5, hb6⟩ := k
    simp only at e hb3 hb4 hb5 hb6
    subst e
    have hx := xh.le
    simp (maxSteps := 1000000) (disch := first | decide | omega | (simp only [go_sem]; first | done | omega)) only [go_sem, Int.reduceToNat, Nat.reduceMul, Nat.reduceAdd, Nat.reduceSub, ↓EU_region, ↓EU_draw, if_true]
    exact ⟨xh.trans x2, cb, qb, lb, mb, v, rfl, ⟨hb3, hb5, hb4, hb6, pq.ext x2⟩, by omega, by omega, by omega, by omega, fv.mono (by omega)⟩
section
variable {cb qb lb mb : Nat} {v : Value} {tag base cur : Int} {l : List Pnt} {idle age : Int} {h : Heap}
theorem coreTag_ev (q : CQ h cb qb lb mb v tag base cur l idle age) : EF Tryz.prog O0 11 [ptr cb 0] h = some (.int .i64 tag, h) := by
  have : WPo (EF Tryz.prog O0 11 [ptr cb 0] h) fun q => q = (.int .i64 tag, h) := by
    have h1 := q.gb
    have h2 := polTag_ev qb lb v tag base cur l h q.pq
    rw [EF_body (O := O0) (by kernel_rfl) Tryz.func11 rfl (rs := [.tmp 2]) rfl (bad := []) (by kernel_rfl) _ _ (m := 8) rfl]
    simp (maxSteps := 1000000) (disch := first | decide | omega | (simp only [go_sem]; first | done | omega)) only [go_sem, Int.reduceToNat, Nat.reduceMul, Nat.reduceAdd, Nat.reduceSub, ↓EU_region, ↓EU_draw, h1, h2]
  obtain ⟨q, e, rfl⟩ := this
  exact e
theorem coreAge_ev (q : CQ h cb qb lb mb v tag base cur l idle age) : EF Tryz.prog O0 60 [ptr cb 0] h = some (.int .i64 age, h) := by
  have : WPo (EF Tryz.prog O0 60 [ptr cb 0] h) fun q => q = (.int .i64 age, h) := by
    have h1 := q.gb
    rw [EF_body (O := O0) (by kernel_rfl) Tryz.func60 rfl (rs := [.tmp 2]) rfl (bad := []) (by kernel_rfl) _ _ (m := 7) rfl]
    simp (maxSteps := 1000000) (disch := first | decide | omega | (simp only [go_sem]; first | done | omega)) only [go_sem, Int.reduceToNat, Nat.reduceMul, Nat.reduceAdd, Nat.reduceSub, ↓EU_region, ↓EU_draw, h1]
  obtain ⟨q, e, rfl⟩ := this
  exact e
theorem coreForm_ev (q : CQ h cb qb lb mb v tag base cur l idle age) (hl : l.length < 900000) (hw : Near base l) : WPo (EF Tryz.prog O0 13 [ptr cb 0] h) fun q => ∃ v, q.1 = formV cur v ∧ OW itemE 3 q.2 v (l.map (itP base)) ∧ Fresh h.next v ∧ Ext h q.2 := by
  have h1 := q.gb
  have h2 := q.pq.gb
  have l1 := q.lt
  have l2 := q.pq.lt
  have hF := formI_ev tag base cur l v lb (h.push (.cells [.int .i64 0, .slice none 0 1] 0)) q.pq.tg (q.pq.lq.ext ((Ext.refl h).push _)) hl hw
  rw [EF_body (O := O0) (by kernel_rfl) Tryz.func13 rfl (rs := [.cell 2 24]) rfl (bad := []) (by kernel_rfl) _ _ (m := 11) rfl]
  simp (maxSteps := 1000000) (disch := first | decide | omega | (simp only [go_sem]; first | done | omega)) only [go_sem, Int.reduceToNat, Nat.reduceMul, Nat.reduceAdd, Nat.reduceSub, ↓EU_region, ↓EU_draw, h1, h2]
  repeat refine WPo_ob ?_
  refine hF.mono ?_
  rintro ⟨w, h1⟩ ⟨u, e, ou, fu, x1⟩
  simp only at e ou x1
  subst e
  unfold formV
  have hn1 := x1.le
  rw [next_push] at hn1
  have hc1 : h1.get h.next = .cells [.int .i64 0, .slice none 0 1] 0 := by rw [x1.old _ (by rw [next_push]; omega)]; exact get_push_new _ _
  obtain ⟨au, ku, hu⟩ := ou.val
  subst hu
  simp (maxSteps := 1000000) (disch := first | decide | omega | (simp only [go_sem]; first | done | omega)) only [go_sem, Int.reduceToNat, Nat.reduceMul, Nat.reduceAdd, Nat.reduceSub, ↓EU_region, ↓EU_draw, hc1]
  refine ⟨_, rfl, ou.mod (Mod.set (S := fun j => j = h.next) (Mod.refl _ _) _ _ (fun _ => rfl)) (fun j hj q => by have := fu j hj; rw [next_push] at this; omega), fu.mono (by rw [next_push]; omega), (((Ext.refl h).push _).trans x1).set _ _ (by omega)⟩
end
end Go.Proofs.YtddgcakiceodgaaGreat.EV
