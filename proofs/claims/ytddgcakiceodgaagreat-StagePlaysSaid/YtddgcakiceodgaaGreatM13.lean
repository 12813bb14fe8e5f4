/- Contracts: Charge of the three policies, Pick and Charge through the interface, (*policy.Q).Run. No condition. Contracts: policy.of, New, Seed, Tag, Good. No condition. Contracts: policy.New, Tag. No condition. Maps with whole numbers for keys: what is looked up, set, struck out. No condition. Contracts: core.of, Seed, Tag, Age, Form. No condition. Contracts: (*core.Core).done, Run. No condition. Contracts: package seal, and the reference's seals. No condition. -/
import Derived.Test.YtddgcakiceodgaaGreatM12
import Derived.Test.YtddgcakiceodgaaGreatM11
import Derived.Test.YtddgcakiceodgaaGreatM10
namespace Go.Proofs.YtddgcakiceodgaaGreat.EV
open Go Go.Proofs
set_option linter.unusedVariables false
set_option linter.unusedSimpArgs false
set_option maxRecDepth 100000
noncomputable def Calm (l : List Pnt) : Prop := ∀ p ∈ l, (-2305843009213693952 ≤ p.v ∧ p.v ≤ 2305843008980901392) ∧ 1 ≤ p.w ∧ p.w ≤ 20
noncomputable def chL (cur : Int) (l : List Pnt) : List Pnt := match nowI cur l with
 | some i => l.set i (chP (l.getD i zP))
 | none => l
noncomputable def chB (base cur : Int) (l : List Pnt) : Int := match nowI cur l with
 | some i => growB base (l.set i (chP (l.getD i zP)))
 | none => base
noncomputable def chE (cur : Int) (l : List Pnt) : Int := if (nowI cur l).isSome then 0 else 14
noncomputable def chN (cur : Int) (l : List Pnt) : Int := match nowI cur l with
 | some i => (l.getD i zP).id
 | none => 0
noncomputable def ChPost (b : Nat) (v : Value) (base cur : Int) (l : List Pnt) (h : Heap) (r : Value × Heap) : Prop :=
 r.1 = .tuple ⟨[.int .i64 (chN cur l), .int .i64 (chE cur l)]⟩ ∧ LQ r.2 b v (chB base cur l) cur (chL cur l) ∧ Mod (fun j => j = b ∨ blkOf v j) h r.2
section
variable {b : Nat} {v : Value} {base cur : Int} {l : List Pnt} {h : Heap}
theorem lnCharge2_ev (q : LQ h b v base cur l) (hl : l.length < 900000) (hc : Calm l) : WPo (EF Tryz.prog O0 128 [ptr b 0] h) (ChPost b v base cur l h) := by
 refine (lnCharge_ev q hl fun p hp => (hc p hp).1).mono ?_
 rintro ⟨w, h1⟩ k
 unfold ChPost chN chE chB chL
 cases hi : nowI cur l with
 | none =>
  rw [hi] at k
  exact ⟨k.1, q.ext k.2, k.2.mod _⟩
 | some i =>
  rw [hi] at k
  exact k
theorem strideCharge_ev (q : LQ h b v base cur l) (hl : l.length < 900000) (hc : Calm l) : WPo (EF Tryz.prog O0 121 [ptr b 0] h) (ChPost b v base cur l h) := by
 rw [EF_body (O := O0) (by kernel_rfl) Tryz.func121 rfl (rs := [.tmp 2, .tmp 3]) rfl (bad := []) (by kernel_rfl) _ _ (m := 10) rfl]
 simp (disch := first|exact dis|fail) only [go_sem, simprocAttr, ↓EU_rg]
 repeat refine WPo_ob ?_
 refine (lnCharge2_ev q hl hc).mono ?_
 rintro ⟨w, h1⟩ ⟨e, q1, m1⟩
 simp only at e q1 m1
 subst e
 simp (disch := first|exact dis|fail) only [go_sem, simprocAttr, ↓EU_rg]
 exact ⟨rfl, q1, m1⟩
theorem strideChargeI_ev (q : LQ h b v base cur l) (hl : l.length < 900000) (hc : Calm l) : WPo (INV Tryz.prog O0 h [] "Charge" (.iface 109 (ptr b 0))) (ChPost b v base cur l h) := by
 have hm : methV Tryz.prog h 20 109 (ptr b 0) "Charge" = some (121, ptr b 0) := by kernel_rfl
 rw [INV_ev hm]
 exact strideCharge_ev q hl hc
theorem stridePickI_ev (q : LQ h b v base cur l) (hl : l.length < 900000) (hc : Calm l) : WPo (INV Tryz.prog O0 h [] "Pick" (.iface 109 (ptr b 0))) (PickPost b v base cur l h 0) := by
 have hm : methV Tryz.prog h 20 109 (ptr b 0) "Pick" = some (125, ptr b 0) := by kernel_rfl
 rw [INV_ev hm]
 exact stridePick_ev q hl 
theorem fairCharge_ev (q : LQ h b v base cur l) (hl : l.length < 900000) (hc : Calm l) : WPo (EF Tryz.prog O0 141 [ptr b 0] h) (ChPost b v base cur l h) := by
 rw [EF_body (O := O0) (by kernel_rfl) Tryz.func141 rfl (rs := [.tmp 2, .tmp 3]) rfl (bad := []) (by kernel_rfl) _ _ (m := 10) rfl]
 simp (disch := first|exact dis|fail) only [go_sem, simprocAttr, ↓EU_rg]
 repeat refine WPo_ob ?_
 refine (lnCharge2_ev q hl hc).mono ?_
 rintro ⟨w, h1⟩ ⟨e, q1, m1⟩
 simp only at e q1 m1
 subst e
 simp (disch := first|exact dis|fail) only [go_sem, simprocAttr, ↓EU_rg]
 exact ⟨rfl, q1, m1⟩
theorem fairChargeI_ev (q : LQ h b v base cur l) (hl : l.length < 900000) (hc : Calm l) : WPo (INV Tryz.prog O0 h [] "Charge" (.iface 113 (ptr b 0))) (ChPost b v base cur l h) := by
 have hm : methV Tryz.prog h 20 113 (ptr b 0) "Charge" = some (141, ptr b 0) := by kernel_rfl
 rw [INV_ev hm]
 exact fairCharge_ev q hl hc
theorem fairPickI_ev (q : LQ h b v base cur l) (hl : l.length < 900000) (hc : Calm l) : WPo (INV Tryz.prog O0 h [] "Pick" (.iface 113 (ptr b 0))) (PickPost b v base cur l h 1) := by
 have hm : methV Tryz.prog h 20 113 (ptr b 0) "Pick" = some (145, ptr b 0) := by kernel_rfl
 rw [INV_ev hm]
 exact fairPick_ev q hl (fun p hp => (hc p hp).1)
theorem dueCharge_ev (q : LQ h b v base cur l) (hl : l.length < 900000) (hc : Calm l) : WPo (EF Tryz.prog O0 150 [ptr b 0] h) (ChPost b v base cur l h) := by
 rw [EF_body (O := O0) (by kernel_rfl) Tryz.func150 rfl (rs := [.tmp 2, .tmp 3]) rfl (bad := []) (by kernel_rfl) _ _ (m := 10) rfl]
 simp (disch := first|exact dis|fail) only [go_sem, simprocAttr, ↓EU_rg]
 repeat refine WPo_ob ?_
 refine (lnCharge2_ev q hl hc).mono ?_
 rintro ⟨w, h1⟩ ⟨e, q1, m1⟩
 simp only at e q1 m1
 subst e
 simp (disch := first|exact dis|fail) only [go_sem, simprocAttr, ↓EU_rg]
 exact ⟨rfl, q1, m1⟩
theorem dueChargeI_ev (q : LQ h b v base cur l) (hl : l.length < 900000) (hc : Calm l) : WPo (INV Tryz.prog O0 h [] "Charge" (.iface 116 (ptr b 0))) (ChPost b v base cur l h) := by
 have hm : methV Tryz.prog h 20 116 (ptr b 0) "Charge" = some (150, ptr b 0) := by kernel_rfl
 rw [INV_ev hm]
 exact dueCharge_ev q hl hc
theorem duePickI_ev (q : LQ h b v base cur l) (hl : l.length < 900000) (hc : Calm l) : WPo (INV Tryz.prog O0 h [] "Pick" (.iface 116 (ptr b 0))) (PickPost b v base cur l h 2) := by
 have hm : methV Tryz.prog h 20 116 (ptr b 0) "Pick" = some (154, ptr b 0) := by kernel_rfl
 rw [INV_ev hm]
 exact duePick_ev q hl (fun p hp => (hc p hp).1) (fun p hp => (hc p hp).2)
theorem chargeI_ev (tag : Int) (ht : tgood tag = true) (q : LQ h b v base cur l) (hl : l.length < 900000) (hc : Calm l) : WPo (INV Tryz.prog O0 h [] "Charge" (.iface (tagT tag) (ptr b 0))) (ChPost b v base cur l h) := by
 rcases tgood_c ht with rfl | rfl | rfl
 ·exact strideChargeI_ev q hl hc
 ·exact fairChargeI_ev q hl hc
 ·exact dueChargeI_ev q hl hc
theorem pickI_ev (tag : Int) (ht : tgood tag = true) (q : LQ h b v base cur l) (hl : l.length < 900000) (hc : Calm l) : WPo (INV Tryz.prog O0 h [] "Pick" (.iface (tagT tag) (ptr b 0))) (PickPost b v base cur l h tag) := by
 rcases tgood_c ht with rfl | rfl | rfl
 ·exact stridePickI_ev q hl hc
 ·exact fairPickI_ev q hl hc
 ·exact duePickI_ev q hl hc
end
theorem polRun_ev {b lb : Nat} {v : Value} {tag base cur : Int} {l : List Pnt} {h : Heap} (q : PQ h b lb v tag base cur l) (hl : l.length < 900000) (hc : Calm l) :
  WPo (EF Tryz.prog O0 40 [ptr b 0] h) fun r => r.1 = .tuple ⟨[.int .i64 (chN (curR tag cur l) l), .int .i64 (chE (curR tag cur l) l)]⟩ ∧ PQ r.2 b lb v tag (chB base (curR tag cur l) l) (curR tag cur l) (chL (curR tag cur l) l) ∧ Mod (fun j => j = lb ∨ blkOf v j) h r.2 := by
 have g := q.gb
 have hb := q.lt
 rw [EF_body (O := O0) (by kernel_rfl) Tryz.func40 rfl (rs := [.tmp 2, .tmp 3]) rfl (bad := []) (by kernel_rfl) _ _ (m := 16) rfl]
 simp (disch := first|exact dis|fail) only [go_sem, simprocAttr, ↓EU_rg, g]
 repeat refine WPo_ob ?_
 refine (pickI_ev tag q.tg q.lq hl hc).mono ?_
 rintro ⟨w, h1⟩ p
 have q1 := p.cur
 obtain ⟨_, m1, _⟩ := p
 simp only at m1 q1
 have g1 := (m1.old b hb fun e => q.ne e).trans g
 simp (disch := first|exact dis|fail) only [go_sem, simprocAttr, ↓EU_rg, g1]
 repeat refine WPo_ob ?_
 refine (chargeI_ev tag q.tg q1 hl hc).mono ?_
 rintro ⟨w, h2⟩ ⟨e, q2, m2⟩
 simp only at e q2 m2
 subst e
 simp (disch := first|exact dis|fail) only [go_sem, simprocAttr, ↓EU_rg]
 have m12 : Mod (fun j => j = lb ∨ blkOf v j) h h2 := (m1.mono fun _ _ e => .inl e).trans m2
 exact ⟨trivial, ⟨q.tg, Nat.lt_of_lt_of_le hb m12.le, (m12.old b hb fun e => e.elim q.ne q.ne1).trans g, q2⟩, m12⟩
theorem polOf_ev (tag : Int) (t : TypeId) (p : Value) (e : Int) (h : Heap) : WPo (EF Tryz.prog O0 57 [.int .i64 tag, .iface t p, .int .i64 e] h) fun q => Ext h q.2 ∧ if e = 0 then ∃ b, q.1 = .tuple ⟨[ptr b 0, .int .i64 0]⟩ ∧ h.next ≤ b ∧ b < q.2.next ∧ q.2.get b = .cells [.iface t p, .int .i64 tag] 0 else q.1 = .tuple ⟨[nilP, .int .i64 e]⟩ := by
 rw [EF_body (O := O0) (by kernel_rfl) Tryz.func57 rfl (rs := [.tmp 6, .tmp 7]) rfl (bad := []) (by kernel_rfl) _ _ (m := 15) rfl]
 simp (disch := first|exact dis|fail) only [go_sem, simprocAttr, ↓EU_rg]
 ((repeat refine WPo_ob ?_); (first | refine WPo_cond (fun b1 => ?_) (fun b1 => ?_) | refine WPo_gard (fun b1 => ?_) (fun b1 => ?_) | refine WPo_gardT (fun b1 => ?_) (fun b1 => ?_)) <;> (try simp only [Bool.not_eq_true', Bool.not_eq_false'] at b1))
 ·simp only [decide_eq_false_iff_not] at b1
  simp (disch := first|exact dis|fail) only [go_sem, simprocAttr, ↓EU_rg, if_neg b1]
  exact ⟨by repeat (first | exact Ext.refl _ | assumption | refine Ext.push ?_ _ | refine Ext.set ?_ _ _ (by first | omega | (simp only [next_push, next_set]; omega))), rfl⟩
 ·simp only [decide_eq_true_eq] at b1
  simp (disch := first|exact dis|fail) only [go_sem, simprocAttr, ↓EU_rg, if_pos b1]
  exact ⟨by repeat (first | exact Ext.refl _ | assumption | refine Ext.push ?_ _ | refine Ext.set ?_ _ _ (by first | omega | (simp only [next_push, next_set]; omega))), _, rfl, Nat.le_refl _, Nat.lt_succ_self _, by simp (disch := first|exact dis|fail) only [go_sem, simprocAttr, ↓EU_rg]⟩
theorem polGood_ev (tag : Int) (h : Heap) : EF Tryz.prog O0 75 [.int .i64 tag] h = some (.bool (tgood tag), h) := by
 have : WPo (EF Tryz.prog O0 75 [.int .i64 tag] h) fun q => q = (.bool (tgood tag), h) := by
  rw [EF_body (O := O0) (by kernel_rfl) Tryz.func75 rfl (rs := [.tmp 2]) rfl (bad := []) (by kernel_rfl) _ _ (m := 9) rfl]
  simp (disch := first|exact dis|fail) only [go_sem, simprocAttr, ↓EU_rg]
  repeat' (((repeat refine WPo_ob ?_); (first | refine WPo_cond (fun hb => ?_) (fun hb => ?_) | refine WPo_gard (fun hb => ?_) (fun hb => ?_) | refine WPo_gardT (fun hb => ?_) (fun hb => ?_)) <;> (try simp only [Bool.not_eq_true', Bool.not_eq_false'] at hb)) <;> (simp (disch := first|exact dis|fail) only [go_sem, simprocAttr, ↓EU_rg, hb]))
  all_goals simp [tgood, *]
 obtain ⟨q, e, rfl⟩ := this
 exact e
theorem polSeed_ev (tag base cur : Int) (l : List Item) (s : Value) (h : Heap) (hs : SL itemE 3 h s l) (hl : l.length < 900000) :
  WPo (EF Tryz.prog O0 55 [.int .i64 tag, formV cur s, .int .i64 base] h) fun q => Ext h q.2 ∧ if tgood tag && (bgood base && goodF cur l) then ∃ b lb v, q.1 = .tuple ⟨[ptr b 0, .int .i64 0]⟩ ∧ PQ q.2 b lb v tag base cur (l.map (ptI base)) ∧ h.next ≤ b ∧ h.next ≤ lb ∧ Fresh h.next v else q.1 = .tuple ⟨[nilP, .int .i64 1]⟩ := by
 have hS := And.intro (strideSeed_ev base cur l s (h.push (.cells [.int .i64 cur, s] 0)) (hs.ext ((Ext.refl h).push _)) hl) (And.intro (fairSeed_ev base cur l s (h.push (.cells [.int .i64 cur, s] 0)) (hs.ext ((Ext.refl h).push _)) hl) (dueSeed_ev base cur l s (h.push (.cells [.int .i64 cur, s] 0)) (hs.ext ((Ext.refl h).push _)) hl))
 unfold formV at *
 cases ht : tgood tag with
 | false =>
  obtain ⟨t0, t1, t2⟩ := tgood_f ht
  have d0 : decide (tag = 0) = false := decide_eq_false t0
  have d1 : decide (tag = 1) = false := decide_eq_false t1
  have d2 : decide (tag = 2) = false := decide_eq_false t2
  rw [EF_body (O := O0) (by kernel_rfl) Tryz.func55 rfl (rs := [.tmp 6, .tmp 7]) rfl (bad := []) (by kernel_rfl) _ _ (m := 60) rfl]
  simp (disch := first|exact dis|fail) only [go_sem, simprocAttr, ↓EU_rg, d0, d1, d2, Bool.false_and, if_false, Bool.false_eq_true]
  exact ⟨by repeat (first | exact Ext.refl _ | assumption | refine Ext.push ?_ _ | refine Ext.set ?_ _ _ (by first | omega | (simp only [next_push, next_set]; omega))), rfl⟩
 | true =>
  have tg0 : decide ((1 : Int) = 0) = false := rfl
  have tg1 : decide ((2 : Int) = 0) = false := rfl
  have tg2 : decide ((2 : Int) = 1) = false := rfl
  rw [EF_body (O := O0) (by kernel_rfl) Tryz.func55 rfl (rs := [.tmp 6, .tmp 7]) rfl (bad := []) (by kernel_rfl) _ _ (m := 60) rfl]
  rcases tgood_c ht with rfl | rfl | rfl
  ·simp (disch := first|exact dis|fail) only [go_sem, simprocAttr, ↓EU_rg, tg0, tg1, tg2]
   repeat refine WPo_ob ?_
   refine (hS.1).mono ?_
   rintro ⟨w, h1⟩ ⟨x1, k⟩
   have xh : Ext h h1 := ((Ext.refl h).push _).trans x1
   cases hg : (bgood base && goodF cur l) with
   | false =>
    rw [hg, if_neg (by decide)] at k
    simp only at k
    subst k
    unfold nilP
    simp (disch := first|exact dis|fail) only [go_sem, simprocAttr, ↓EU_rg, tg0, tg1, tg2]
    repeat refine WPo_ob ?_
    refine (polOf_ev 0 109 nilP 1 h1).mono ?_
    rintro ⟨w, h2⟩ ⟨x2, k⟩
    rw [if_neg (by decide)] at k
    simp only at k
    subst k
    simp (disch := first|exact dis|fail) only [go_sem, simprocAttr, ↓EU_rg, Bool.and_false, if_false, Bool.false_eq_true]
    exact ⟨xh.trans x2, rfl⟩
   | true =>
    rw [hg, if_pos rfl] at k
    obtain ⟨lb, v, e, lq, hlb, fv⟩ := k
    simp only at e lq
    subst e
    simp (disch := first|exact dis|fail) only [go_sem, simprocAttr, ↓EU_rg, tg0, tg1, tg2]
    repeat refine WPo_ob ?_
    refine (polOf_ev 0 109 (ptr lb 0) 0 h1).mono ?_
    rintro ⟨w, h2⟩ ⟨x2, k⟩
    rw [if_pos rfl] at k
    obtain ⟨b, e, hb, hb2, hg2⟩ := k
    simp only at e hb2 hg2
    subst e
    simp (disch := first|exact dis|fail) only [go_sem, simprocAttr, ↓EU_rg, if_true, Bool.and_self]
    exact ⟨xh.trans x2, b, lb, v, rfl, ⟨rfl, hb2, hg2, lq.ext x2⟩, Nat.le_trans xh.le hb, by simp only [next_push] at hlb; omega, fv.mono (by rw [next_push]; omega)⟩
  ·simp (disch := first|exact dis|fail) only [go_sem, simprocAttr, ↓EU_rg, tg0, tg1, tg2]
   repeat refine WPo_ob ?_
   refine (hS.2.1).mono ?_
   rintro ⟨w, h1⟩ ⟨x1, k⟩
   have xh : Ext h h1 := ((Ext.refl h).push _).trans x1
   cases hg : (bgood base && goodF cur l) with
   | false =>
    rw [hg, if_neg (by decide)] at k
    simp only at k
    subst k
    unfold nilP
    simp (disch := first|exact dis|fail) only [go_sem, simprocAttr, ↓EU_rg, tg0, tg1, tg2]
    repeat refine WPo_ob ?_
    refine (polOf_ev 1 113 nilP 1 h1).mono ?_
    rintro ⟨w, h2⟩ ⟨x2, k⟩
    rw [if_neg (by decide)] at k
    simp only at k
    subst k
    simp (disch := first|exact dis|fail) only [go_sem, simprocAttr, ↓EU_rg, Bool.and_false, if_false, Bool.false_eq_true]
    exact ⟨xh.trans x2, rfl⟩
   | true =>
    rw [hg, if_pos rfl] at k
    obtain ⟨lb, v, e, lq, hlb, fv⟩ := k
    simp only at e lq
    subst e
    simp (disch := first|exact dis|fail) only [go_sem, simprocAttr, ↓EU_rg, tg0, tg1, tg2]
    repeat refine WPo_ob ?_
    refine (polOf_ev 1 113 (ptr lb 0) 0 h1).mono ?_
    rintro ⟨w, h2⟩ ⟨x2, k⟩
    rw [if_pos rfl] at k
    obtain ⟨b, e, hb, hb2, hg2⟩ := k
    simp only at e hb2 hg2
    subst e
    simp (disch := first|exact dis|fail) only [go_sem, simprocAttr, ↓EU_rg, if_true, Bool.and_self]
    exact ⟨xh.trans x2, b, lb, v, rfl, ⟨rfl, hb2, hg2, lq.ext x2⟩, Nat.le_trans xh.le hb, by simp only [next_push] at hlb; omega, fv.mono (by rw [next_push]; omega)⟩
  ·simp (disch := first|exact dis|fail) only [go_sem, simprocAttr, ↓EU_rg, tg0, tg1, tg2]
   repeat refine WPo_ob ?_
   refine (hS.2.2).mono ?_
   rintro ⟨w, h1⟩ ⟨x1, k⟩
   have xh : Ext h h1 := ((Ext.refl h).push _).trans x1
   cases hg : (bgood base && goodF cur l) with
   | false =>
    rw [hg, if_neg (by decide)] at k
    simp only at k
    subst k
    unfold nilP
    simp (disch := first|exact dis|fail) only [go_sem, simprocAttr, ↓EU_rg, tg0, tg1, tg2]
    repeat refine WPo_ob ?_
    refine (polOf_ev 2 116 nilP 1 h1).mono ?_
    rintro ⟨w, h2⟩ ⟨x2, k⟩
    rw [if_neg (by decide)] at k
    simp only at k
    subst k
    simp (disch := first|exact dis|fail) only [go_sem, simprocAttr, ↓EU_rg, Bool.and_false, if_false, Bool.false_eq_true]
    exact ⟨xh.trans x2, rfl⟩
   | true =>
    rw [hg, if_pos rfl] at k
    obtain ⟨lb, v, e, lq, hlb, fv⟩ := k
    simp only at e lq
    subst e
    simp (disch := first|exact dis|fail) only [go_sem, simprocAttr, ↓EU_rg, tg0, tg1, tg2]
    repeat refine WPo_ob ?_
    refine (polOf_ev 2 116 (ptr lb 0) 0 h1).mono ?_
    rintro ⟨w, h2⟩ ⟨x2, k⟩
    rw [if_pos rfl] at k
    obtain ⟨b, e, hb, hb2, hg2⟩ := k
    simp only at e hb2 hg2
    subst e
    simp (disch := first|exact dis|fail) only [go_sem, simprocAttr, ↓EU_rg, if_true, Bool.and_self]
    exact ⟨xh.trans x2, b, lb, v, rfl, ⟨rfl, hb2, hg2, lq.ext x2⟩, Nat.le_trans xh.le hb, by simp only [next_push] at hlb; omega, fv.mono (by rw [next_push]; omega)⟩
theorem polNew_ev (tag base : Int) (h : Heap) :
  WPo (EF Tryz.prog O0 33 [.int .i64 tag, .int .i64 base] h) fun q => Ext h q.2 ∧ if tgood tag && bgood base then ∃ b lb, q.1 = .tuple ⟨[ptr b 0, .int .i64 0]⟩ ∧ PQ q.2 b lb noS tag base (-1) [] ∧ h.next ≤ b ∧ h.next ≤ lb else q.1 = .tuple ⟨[nilP, .int .i64 1]⟩ := by
 cases ht : tgood tag with
 | false =>
  obtain ⟨t0, t1, t2⟩ := tgood_f ht
  have d0 : decide (tag = 0) = false := decide_eq_false t0
  have d1 : decide (tag = 1) = false := decide_eq_false t1
  have d2 : decide (tag = 2) = false := decide_eq_false t2
  rw [EF_body (O := O0) (by kernel_rfl) Tryz.func33 rfl (rs := [.tmp 4, .tmp 5]) rfl (bad := []) (by kernel_rfl) _ _ (m := 55) rfl]
  simp (disch := first|exact dis|fail) only [go_sem, simprocAttr, ↓EU_rg, d0, d1, d2, Bool.false_and, if_false, Bool.false_eq_true]
  exact ⟨by repeat (first | exact Ext.refl _ | assumption | refine Ext.push ?_ _ | refine Ext.set ?_ _ _ (by first | omega | (simp only [next_push, next_set]; omega))), rfl⟩
 | true =>
  have tg0 : decide ((1 : Int) = 0) = false := rfl
  have tg1 : decide ((2 : Int) = 0) = false := rfl
  have tg2 : decide ((2 : Int) = 1) = false := rfl
  rw [EF_body (O := O0) (by kernel_rfl) Tryz.func33 rfl (rs := [.tmp 4, .tmp 5]) rfl (bad := []) (by kernel_rfl) _ _ (m := 55) rfl]
  rcases tgood_c ht with rfl | rfl | rfl
  ·simp (disch := first|exact dis|fail) only [go_sem, simprocAttr, ↓EU_rg, tg0, tg1, tg2]
   repeat refine WPo_ob ?_
   refine (strideNew_ev base h).mono ?_
   rintro ⟨w, h1⟩ ⟨x1, k⟩
   cases hg : bgood base with
   | false =>
    rw [hg, if_neg (by decide)] at k
    simp only at k
    subst k
    unfold nilP
    simp (disch := first|exact dis|fail) only [go_sem, simprocAttr, ↓EU_rg, tg0, tg1, tg2]
    repeat refine WPo_ob ?_
    refine (polOf_ev 0 109 nilP 1 h1).mono ?_
    rintro ⟨w, h2⟩ ⟨x2, k⟩
    rw [if_neg (by decide)] at k
    simp only at k
    subst k
    simp (disch := first|exact dis|fail) only [go_sem, simprocAttr, ↓EU_rg, Bool.and_false, if_false, Bool.false_eq_true]
    exact ⟨x1.trans x2, rfl⟩
   | true =>
    rw [hg, if_pos rfl] at k
    obtain ⟨lb, e, lq, hlb⟩ := k
    simp only at e lq
    subst e
    simp (disch := first|exact dis|fail) only [go_sem, simprocAttr, ↓EU_rg, tg0, tg1, tg2]
    repeat refine WPo_ob ?_
    refine (polOf_ev 0 109 (ptr lb 0) 0 h1).mono ?_
    rintro ⟨w, h2⟩ ⟨x2, k⟩
    rw [if_pos rfl] at k
    obtain ⟨b, e, hb, hb2, hg2⟩ := k
    simp only at e hb2 hg2
    subst e
    simp (disch := first|exact dis|fail) only [go_sem, simprocAttr, ↓EU_rg, if_true, Bool.and_self]
    exact ⟨x1.trans x2, b, lb, rfl, ⟨rfl, hb2, hg2, lq.ext x2⟩, Nat.le_trans x1.le hb, hlb⟩
  ·simp (disch := first|exact dis|fail) only [go_sem, simprocAttr, ↓EU_rg, tg0, tg1, tg2]
   repeat refine WPo_ob ?_
   refine (fairNew_ev base h).mono ?_
   rintro ⟨w, h1⟩ ⟨x1, k⟩
   cases hg : bgood base with
   | false =>
    rw [hg, if_neg (by decide)] at k
    simp only at k
    subst k
    unfold nilP
    simp (disch := first|exact dis|fail) only [go_sem, simprocAttr, ↓EU_rg, tg0, tg1, tg2]
    repeat refine WPo_ob ?_
    refine (polOf_ev 1 113 nilP 1 h1).mono ?_
    rintro ⟨w, h2⟩ ⟨x2, k⟩
    rw [if_neg (by decide)] at k
    simp only at k
    subst k
    simp (disch := first|exact dis|fail) only [go_sem, simprocAttr, ↓EU_rg, Bool.and_false, if_false, Bool.false_eq_true]
    exact ⟨x1.trans x2, rfl⟩
   | true =>
    rw [hg, if_pos rfl] at k
    obtain ⟨lb, e, lq, hlb⟩ := k
    simp only at e lq
    subst e
    simp (disch := first|exact dis|fail) only [go_sem, simprocAttr, ↓EU_rg, tg0, tg1, tg2]
    repeat refine WPo_ob ?_
    refine (polOf_ev 1 113 (ptr lb 0) 0 h1).mono ?_
    rintro ⟨w, h2⟩ ⟨x2, k⟩
    rw [if_pos rfl] at k
    obtain ⟨b, e, hb, hb2, hg2⟩ := k
    simp only at e hb2 hg2
    subst e
    simp (disch := first|exact dis|fail) only [go_sem, simprocAttr, ↓EU_rg, if_true, Bool.and_self]
    exact ⟨x1.trans x2, b, lb, rfl, ⟨rfl, hb2, hg2, lq.ext x2⟩, Nat.le_trans x1.le hb, hlb⟩
  ·simp (disch := first|exact dis|fail) only [go_sem, simprocAttr, ↓EU_rg, tg0, tg1, tg2]
   repeat refine WPo_ob ?_
   refine (dueNew_ev base h).mono ?_
   rintro ⟨w, h1⟩ ⟨x1, k⟩
   cases hg : bgood base with
   | false =>
    rw [hg, if_neg (by decide)] at k
    simp only at k
    subst k
    unfold nilP
    simp (disch := first|exact dis|fail) only [go_sem, simprocAttr, ↓EU_rg, tg0, tg1, tg2]
    repeat refine WPo_ob ?_
    refine (polOf_ev 2 116 nilP 1 h1).mono ?_
    rintro ⟨w, h2⟩ ⟨x2, k⟩
    rw [if_neg (by decide)] at k
    simp only at k
    subst k
    simp (disch := first|exact dis|fail) only [go_sem, simprocAttr, ↓EU_rg, Bool.and_false, if_false, Bool.false_eq_true]
    exact ⟨x1.trans x2, rfl⟩
   | true =>
    rw [hg, if_pos rfl] at k
    obtain ⟨lb, e, lq, hlb⟩ := k
    simp only at e lq
    subst e
    simp (disch := first|exact dis|fail) only [go_sem, simprocAttr, ↓EU_rg, tg0, tg1, tg2]
    repeat refine WPo_ob ?_
    refine (polOf_ev 2 116 (ptr lb 0) 0 h1).mono ?_
    rintro ⟨w, h2⟩ ⟨x2, k⟩
    rw [if_pos rfl] at k
    obtain ⟨b, e, hb, hb2, hg2⟩ := k
    simp only at e hb2 hg2
    subst e
    simp (disch := first|exact dis|fail) only [go_sem, simprocAttr, ↓EU_rg, if_true, Bool.and_self]
    exact ⟨x1.trans x2, b, lb, rfl, ⟨rfl, hb2, hg2, lq.ext x2⟩, Nat.le_trans x1.le hb, hlb⟩
theorem polTag_ev (b lb : Nat) (v : Value) (tag base cur : Int) (l : List Pnt) (h : Heap) (q : PQ h b lb v tag base cur l) : EF Tryz.prog O0 37 [ptr b 0] h = some (.int .i64 tag, h) := by
 have : WPo (EF Tryz.prog O0 37 [ptr b 0] h) fun q => q = (.int .i64 tag, h) := by
  have := q.gb
  rw [EF_body (O := O0) (by kernel_rfl) Tryz.func37 rfl (rs := [.tmp 2]) rfl (bad := []) (by kernel_rfl) _ _ (m := 7) rfl]
  simp (disch := first|exact dis|fail) only [go_sem, simprocAttr, ↓EU_rg, this]
 obtain ⟨q, e, rfl⟩ := this
 exact e
noncomputable def ekey (e : MapEntry) : Int := match e.key with
 | .int _ n => n
 | _ => 0
structure MapOK (es : List MapEntry) (clk : Nat) : Prop where
 key : ∀ e ∈ es, e.key = .int .i64 (ekey e)
 nd : (es.map ekey).Nodup
 bnd : (es.map (·.born)).Nodup
 lt : ∀ e ∈ es, e.born < clk
structure MR (es : List MapEntry) (clk : Nat) (f : Int → Option Value) : Prop extends MapOK es clk where
 says : ∀ k v, f k = some v ↔ ∃ e ∈ es, ekey e = k ∧ e.val = v
theorem findE_spec (k : Int) : ∀ (es : List MapEntry) (i : Nat), (∀ e ∈ es, e.key = .int .i64 (ekey e)) →
  ((∀ e ∈ es, ekey e ≠ k) ∧ findE .i64 k es i = some none) ∨ ∃ j e, es[j]? = some e ∧ ekey e = k ∧ findE .i64 k es i = some (some (i + j, e.val))
 | [], i, _ => .inl ⟨fun _ h => (by cases h), rfl⟩
 | e :: es, i, h => by
  have hk := h e (List.mem_cons_self ..)
  have e1 : findE .i64 k (e :: es) i = cnd (decide (k = ekey e)) (some (some (i, e.val))) (findE .i64 k es (Nat.succ i)) := by
   conv => lhs; unfold findE
   rw [hk]
   show cnd (decide (IntKind.i64 = IntKind.i64)) _ _ = _
   rw [decide_eq_true rfl]; rfl
  by_cases q : k = ekey e
  ·refine .inr ⟨0, e, rfl, q.symm, ?_⟩
   rw [e1, decide_eq_true q]; rfl
  ·rw [e1, decide_eq_false q, cnd_false]
   rcases findE_spec k es (Nat.succ i) (fun x hx => h x (List.mem_cons_of_mem _ hx)) with ⟨h1, h2⟩ | ⟨j, x, h1, h2, h3⟩
   ·refine .inl ⟨fun x hx => ?_, h2⟩
    rcases List.mem_cons.1 hx with rfl | hx
    ·exact fun e => q e.symm
    ·exact h1 x hx
   ·exact .inr ⟨j + 1, x, h1, h2, by rw [h3, Nat.succ_eq_add_one, Nat.add_assoc, Nat.add_comm 1 j]⟩
section
variable {es : List MapEntry} {clk : Nat} {f : Int → Option Value}
theorem key_at (m : MapOK es clk) {i j : Nat} {a b : MapEntry} (h1 : es[i]? = some a) (h2 : es[j]? = some b) (h : ekey a = ekey b) : i = j := by
 obtain ⟨l1, rfl⟩ := List.getElem?_eq_some_iff.1 h1
 obtain ⟨l2, rfl⟩ := List.getElem?_eq_some_iff.1 h2
 have hp := List.pairwise_iff_getElem.1 m.nd
 rcases Nat.lt_trichotomy i j with q | q | q
 ·exact absurd (by rw [List.getElem_map, List.getElem_map]; exact h) (hp i j (by simpa using l1) (by simpa using l2) q)
 ·exact q
 ·exact absurd (by rw [List.getElem_map, List.getElem_map]; exact h.symm) (hp j i (by simpa using l2) (by simpa using l1) q)
theorem MR.find (m : MR es clk f) (k : Int) : (f k = none ∧ (∀ e ∈ es, ekey e ≠ k) ∧ findE .i64 k es 0 = some none) ∨ ∃ j e, f k = some e.val ∧ es[j]? = some e ∧ ekey e = k ∧ findE .i64 k es 0 = some (some (j, e.val)) := by
 rcases findE_spec k es 0 m.key with ⟨h1, h2⟩ | ⟨j, e, h1, h2, h3⟩
 ·refine .inl ⟨?_, h1, h2⟩
  cases hf : f k with
  | none => rfl
  | some v =>
   obtain ⟨e, he, hk, _⟩ := (m.says k v).1 hf
   exact absurd hk (h1 e he)
 ·rw [Nat.zero_add] at h3
  exact .inr ⟨j, e, (m.says k e.val).2 ⟨e, List.mem_of_getElem? h1, h2, rfl⟩, h1, h2, h3⟩
theorem MR.nil : MR [] 0 (fun _ => none) := ⟨⟨fun _ h => (by cases h), List.Pairwise.nil, List.Pairwise.nil, fun _ h => (by cases h)⟩, fun k v => ⟨fun h => (by cases h), fun ⟨e, h, _⟩ => (by cases h)⟩⟩
noncomputable def upd (f : Int → Option Value) (k : Int) (v : Option Value) (x : Int) : Option Value := if x = k then v else f x
theorem mod_mem {j : Nat} {e : MapEntry} (h : es[j]? = some e) (g : MapEntry → MapEntry) (x : MapEntry) : x ∈ es.modify j g ↔ x = g e ∨ ∃ i, i ≠ j ∧ es[i]? = some x := by
 constructor
 ·intro hx
  obtain ⟨i, hi⟩ := List.getElem?_of_mem hx
  rw [List.getElem?_modify] at hi
  by_cases q : j = i
  ·subst q
   rw [h] at hi
   simp at hi
   exact .inl hi.symm
  ·simp [q] at hi
   exact .inr ⟨i, fun e => q e.symm, hi⟩
 ·rintro (rfl | ⟨i, q, hi⟩)
  ·apply List.mem_of_getElem? (i := j)
   rw [List.getElem?_modify, h]; simp
  ·apply List.mem_of_getElem? (i := i)
   have q' : ¬ j = i := fun e => q e.symm
   rw [List.getElem?_modify, hi]; simp [q']
theorem MR.modify (m : MR es clk f) {j : Nat} {e : MapEntry} {k : Int} (h : es[j]? = some e) (hk : ekey e = k) (v : Value) : MR (es.modify j fun e => { e with val := v }) clk (upd f k (some v)) := by
 have hm := mod_mem h (fun e => { e with val := v })
 have hke : ∀ (e : MapEntry) (v : Value), ekey { e with val := v } = ekey e := fun _ _ => rfl
 have kk : (es.modify j fun e => { e with val := v }).map ekey = es.map ekey := by
  apply List.ext_getElem?
  intro i
  rw [List.getElem?_map, List.getElem?_map, List.getElem?_modify]
  cases es[i]? with
  | none => rfl
  | some x =>
   by_cases q : j = i
   ·simp [q]; rfl
   ·simp [q]
 have bb : (es.modify j fun e => { e with val := v }).map (·.born) = es.map (·.born) := by
  apply List.ext_getElem?
  intro i
  rw [List.getElem?_map, List.getElem?_map, List.getElem?_modify]
  cases es[i]? with
  | none => rfl
  | some x =>
   by_cases q : j = i
   ·simp [q]
   ·simp [q]
 refine ⟨⟨fun x hx => ?_, by rw [kk]; exact m.nd, by rw [bb]; exact m.bnd, fun x hx => ?_⟩, fun k' v' => ?_⟩
 ·rcases (hm x).1 hx with rfl | ⟨i, _, hi⟩
  ·exact m.key e (List.mem_of_getElem? h)
  ·exact m.key x (List.mem_of_getElem? hi)
 ·rcases (hm x).1 hx with rfl | ⟨i, _, hi⟩
  ·exact m.lt e (List.mem_of_getElem? h)
  ·exact m.lt x (List.mem_of_getElem? hi)
 ·unfold upd
  by_cases q : k' = k
  ·rw [if_pos q]
   subst q
   constructor
   ·intro e'
    cases e'
    exact ⟨_, (hm _).2 (.inl rfl), hk, rfl⟩
   ·rintro ⟨x, hx, h1, h2⟩
    rcases (hm x).1 hx with rfl | ⟨i, hi, hi'⟩
    ·rw [← h2]
    ·exact absurd (key_at m.toMapOK hi' h (h1.trans hk.symm)) hi
  ·rw [if_neg q, m.says]
   constructor
   ·rintro ⟨x, hx, h1, h2⟩
    obtain ⟨i, hi⟩ := List.getElem?_of_mem hx
    refine ⟨x, (hm x).2 (.inr ⟨i, fun e' => ?_, hi⟩), h1, h2⟩
    subst e'
    rw [h] at hi
    cases hi
    exact q (h1.symm.trans hk)
   ·rintro ⟨x, hx, h1, h2⟩
    rcases (hm x).1 hx with rfl | ⟨i, _, hi'⟩
    ·exact absurd (h1.symm.trans hk) q
    ·exact ⟨x, List.mem_of_getElem? hi', h1, h2⟩
theorem MR.append (m : MR es clk f) {k : Int} (h : ∀ e ∈ es, ekey e ≠ k) (v : Value) : MR (es ++ [{ key := .int .i64 k, val := v, born := clk }]) (clk + 1) (upd f k (some v)) := by
 refine ⟨⟨fun x hx => ?_, ?_, ?_, fun x hx => ?_⟩, fun k' v' => ?_⟩
 ·rcases List.mem_append.1 hx with q | q
  ·exact m.key x q
  ·rw [List.mem_singleton.1 q]; rfl
 ·rw [List.map_append, List.nodup_append]
  refine ⟨m.nd, by simp, fun a ha b hb e => ?_⟩
  obtain ⟨x, hx, rfl⟩ := List.mem_map.1 ha
  simp only [List.map_cons, List.map_nil, List.mem_singleton] at hb
  exact h x hx (e.trans hb)
 ·rw [List.map_append, List.nodup_append]
  refine ⟨m.bnd, by simp, fun a ha b hb e => ?_⟩
  obtain ⟨x, hx, rfl⟩ := List.mem_map.1 ha
  simp only [List.map_cons, List.map_nil, List.mem_singleton] at hb
  have := m.lt x hx
  omega
 ·rcases List.mem_append.1 hx with q | q
  ·exact Nat.lt_succ_of_lt (m.lt x q)
  ·rw [List.mem_singleton.1 q]; exact Nat.lt_succ_self _
 ·unfold upd
  by_cases q : k' = k
  ·rw [if_pos q]
   subst q
   constructor
   ·intro e'
    cases e'
    exact ⟨_, List.mem_append.2 (.inr (List.mem_singleton.2 rfl)), rfl, rfl⟩
   ·rintro ⟨x, hx, h1, h2⟩
    rcases List.mem_append.1 hx with p | p
    ·exact absurd h1 (h x p)
    ·rw [List.mem_singleton.1 p] at h2; rw [← h2]
  ·rw [if_neg q, m.says]
   constructor
   ·rintro ⟨x, hx, h1, h2⟩
    exact ⟨x, List.mem_append.2 (.inl hx), h1, h2⟩
   ·rintro ⟨x, hx, h1, h2⟩
    rcases List.mem_append.1 hx with p | p
    ·exact ⟨x, p, h1, h2⟩
    ·rw [List.mem_singleton.1 p] at h1
     exact absurd h1.symm q
end
/-! ## the operations -/
section
variable {P : Program} {O : Orc} {tm : Fr} {h : Heap} {ms : List Nat}
variable {r : Nat} {es : List MapEntry} {clk : Nat} {f : Int → Option Value}
theorem mupd_ok (hg : h.get r = .map es clk) (m : MR es clk f) (k : Int) (v : Value) : ∃ es' clk', MUPD h (.map (some r)) (.int .i64 k) v = some (undef, h.set r (.map es' clk')) ∧ MR es' clk' (upd f k (some v)) := by
 rcases m.find k with ⟨_, hn, h4⟩ | ⟨j, e, h1, h2, h3, h4⟩
 ·refine ⟨_, _, ?_, m.append hn v⟩
  unfold MUPD
  show ob (some r) (fun r => ob (some (IntKind.i64, k)) fun k => ob (mapB (h.get r)) _) = _
  rw [ob_some, ob_some, hg]
  show ob (findE .i64 k es 0) _ = _
  rw [h4]; rfl
 ·refine ⟨_, _, ?_, m.modify h2 h3 v⟩
  unfold MUPD
  show ob (some r) (fun r => ob (some (IntKind.i64, k)) fun k => ob (mapB (h.get r)) _) = _
  rw [ob_some, ob_some, hg]
  show ob (findE .i64 k es 0) _ = _
  rw [h4]; rfl
end
noncomputable def NMap (h : Heap) (mb : Nat) : Prop := ∃ es clk f, h.get mb = .map es clk ∧ MR es clk f ∧ ∀ k v, f k = some v → ∃ n, v = .int .i64 n
structure CQ (h : Heap) (cb qb lb mb : Nat) (v : Value) (tag base cur : Int) (l : List Pnt) (idle age : Int) : Prop where
 lt : cb < h.next
 gb : h.get cb = .cells [ptr qb 0, .map (some mb), .int .i64 idle, .int .i64 age] 0
 ml : mb < h.next
 mp : NMap h mb
 pq : PQ h qb lb v tag base cur l
theorem NMap.mod {h h' : Heap} {mb : Nat} {S : Nat → Prop} (m : NMap h mb) (hl : mb < h.next) (x : Mod S h h') (hs : ¬ S mb) : NMap h' mb := by
 obtain ⟨es, clk, f, h1, h2, h3⟩ := m
 exact ⟨es, clk, f, (x.old mb hl hs).trans h1, h2, h3⟩
theorem CQ.mod {S : Nat → Prop} {h h' : Heap} {cb qb lb mb : Nat} {v : Value} {tag base cur : Int} {l : List Pnt} {idle age : Int} (q : CQ h cb qb lb mb v tag base cur l idle age) (x : Mod S h h') (h1 : ¬ S cb) (h2 : ¬ S qb) (h3 : ¬ S lb) (h4 : ¬ S mb) (h5 : ∀ i, blkOf v i → ¬ S i) : CQ h' cb qb lb mb v tag base cur l idle age :=
 ⟨Nat.lt_of_lt_of_le q.lt x.le, (x.old cb q.lt h1).trans q.gb, Nat.lt_of_lt_of_le q.ml x.le, q.mp.mod q.ml x h4, q.pq.mod x h2 h3 h5⟩
theorem CQ.ext {h h' : Heap} {cb qb lb mb : Nat} {v : Value} {tag base cur : Int} {l : List Pnt} {idle age : Int} (q : CQ h cb qb lb mb v tag base cur l idle age) (x : Ext h h') : CQ h' cb qb lb mb v tag base cur l idle age :=
 q.mod (x.mod fun _ => False) (fun q => q) (fun q => q) (fun q => q) (fun q => q) fun _ _ q => q
theorem CQ.mne {h : Heap} {cb qb lb mb : Nat} {v : Value} {tag base cur : Int} {l : List Pnt} {idle age : Int} (q : CQ h cb qb lb mb v tag base cur l idle age) {b : Nat} {cs : List Value} {e : Nat} (hb : h.get b = .cells cs e) : b ≠ mb := fun k => by
 obtain ⟨es, clk, f, h1, _⟩ := q.mp
 rw [← k, hb] at h1
 cases h1
theorem coreOf_ev (p : Option Addr) (e : Int) (h : Heap) : WPo (EF Tryz.prog O0 54 [.pointer p, .int .i64 e] h) fun q => Ext h q.2 ∧ if e = 0 then ∃ cb mb, q.1 = .tuple ⟨[ptr cb 0, .int .i64 0]⟩ ∧ h.next ≤ cb ∧ h.next ≤ mb ∧ cb < q.2.next ∧ mb < q.2.next ∧ q.2.get cb = .cells [.pointer p, .map (some mb), .int .i64 0, .int .i64 0] 0 ∧ NMap q.2 mb else q.1 = .tuple ⟨[nilP, .int .i64 e]⟩ := by
 rw [EF_body (O := O0) (by kernel_rfl) Tryz.func54 rfl (rs := [.tmp 4, .tmp 5]) rfl (bad := []) (by kernel_rfl) _ _ (m := 13) rfl]
 simp (disch := first|exact dis|fail) only [go_sem, simprocAttr, ↓EU_rg]
 ((repeat refine WPo_ob ?_); (first | refine WPo_cond (fun b1 => ?_) (fun b1 => ?_) | refine WPo_gard (fun b1 => ?_) (fun b1 => ?_) | refine WPo_gardT (fun b1 => ?_) (fun b1 => ?_)) <;> (try simp only [Bool.not_eq_true', Bool.not_eq_false'] at b1))
 ·simp only [decide_eq_false_iff_not] at b1
  simp (disch := first|exact dis|fail) only [go_sem, simprocAttr, ↓EU_rg, if_neg b1]
  exact ⟨by repeat (first | exact Ext.refl _ | assumption | refine Ext.push ?_ _ | refine Ext.set ?_ _ _ (by first | omega | (simp only [next_push, next_set]; omega))), rfl⟩
 ·simp only [decide_eq_true_eq] at b1
  subst b1
  simp (disch := first|exact dis|fail) only [go_sem, simprocAttr, ↓EU_rg, if_true]
  exact ⟨by repeat (first | exact Ext.refl _ | assumption | refine Ext.push ?_ _ | refine Ext.set ?_ _ _ (by first | omega | (simp only [next_push, next_set]; omega))), h.next + 1, h.next, rfl, Nat.le_succ _, Nat.le_refl _, by omega, by omega, by simp (disch := first|exact dis|fail) only [go_sem, simprocAttr, ↓EU_rg], ⟨[], 0, _, by simp (disch := first|exact dis|fail) only [go_sem, simprocAttr, ↓EU_rg], MR.nil, fun k v e => (by cases e)⟩⟩
theorem coreSeed_ev (tag base cur : Int) (l : List Item) (s : Value) (h : Heap) (hs : SL itemE 3 h s l) (hl : l.length < 900000) :
  WPo (EF Tryz.prog O0 32 [.int .i64 tag, formV cur s, .int .i64 base] h) fun q => Ext h q.2 ∧ if tgood tag && (bgood base && goodF cur l) then ∃ cb qb lb mb v, q.1 = .tuple ⟨[ptr cb 0, .int .i64 0]⟩ ∧ CQ q.2 cb qb lb mb v tag base cur (l.map (ptI base)) 0 0 ∧ h.next ≤ cb ∧ h.next ≤ qb ∧ h.next ≤ lb ∧ h.next ≤ mb ∧ Fresh h.next v else q.1 = .tuple ⟨[nilP, .int .i64 1]⟩ := by
 have hS := polSeed_ev tag base cur l s (h.push (.cells [.int .i64 cur, s] 0)) (hs.ext ((Ext.refl h).push _)) hl
 unfold formV at *
 rw [EF_body (O := O0) (by kernel_rfl) Tryz.func32 rfl (rs := [.tmp 6, .tmp 7]) rfl (bad := []) (by kernel_rfl) _ _ (m := 17) rfl]
 simp (disch := first|exact dis|fail) only [go_sem, simprocAttr, ↓EU_rg]
 repeat refine WPo_ob ?_
 refine hS.mono ?_
 rintro ⟨w, h1⟩ ⟨x1, k⟩
 have xh : Ext h h1 := ((Ext.refl h).push _).trans x1
 cases hg : (tgood tag && (bgood base && goodF cur l)) with
 | false =>
  rw [hg, if_neg (by decide)] at k
  simp only at k
  subst k
  unfold nilP
  simp (disch := first|exact dis|fail) only [go_sem, simprocAttr, ↓EU_rg]
  repeat refine WPo_ob ?_
  refine (coreOf_ev none 1 h1).mono ?_
  rintro ⟨w, h2⟩ ⟨x2, k⟩
  rw [if_neg (by decide)] at k
  simp only at k
  subst k
  simp (disch := first|exact dis|fail) only [go_sem, simprocAttr, ↓EU_rg, if_false, Bool.false_eq_true]
  exact ⟨xh.trans x2, rfl⟩
 | true =>
  rw [hg, if_pos rfl] at k
  obtain ⟨qb, lb, v, e, pq, hqb, hlb, fv⟩ := k
  simp only at e pq
  subst e
  simp only [next_push] at hqb hlb fv
  simp (disch := first|exact dis|fail) only [go_sem, simprocAttr, ↓EU_rg]
  repeat refine WPo_ob ?_
  refine (coreOf_ev (some ⟨qb, 0, none⟩) 0 h1).mono ?_
  rintro ⟨w, h2⟩ ⟨x2, k⟩
  rw [if_pos rfl] at k
  obtain ⟨cb, mb, e, hb, hb2, hb3, hb4, hb5, hb6⟩ := k
  simp only at e hb3 hb4 hb5 hb6
  subst e
  have hx := xh.le
  simp (disch := first|exact dis|fail) only [go_sem, simprocAttr, ↓EU_rg, if_true]
  exact ⟨xh.trans x2, cb, qb, lb, mb, v, rfl, ⟨hb3, hb5, hb4, hb6, pq.ext x2⟩, by omega, by omega, by omega, by omega, fv.mono (by omega)⟩
section
variable {cb qb lb mb : Nat} {v : Value} {tag base cur : Int} {l : List Pnt} {idle age : Int} {h : Heap}
theorem coreTag_ev (q : CQ h cb qb lb mb v tag base cur l idle age) : EF Tryz.prog O0 11 [ptr cb 0] h = some (.int .i64 tag, h) := by
 have : WPo (EF Tryz.prog O0 11 [ptr cb 0] h) fun q => q = (.int .i64 tag, h) := by
  have h1 := q.gb
  have h2 := polTag_ev qb lb v tag base cur l h q.pq
  rw [EF_body (O := O0) (by kernel_rfl) Tryz.func11 rfl (rs := [.tmp 2]) rfl (bad := []) (by kernel_rfl) _ _ (m := 8) rfl]
  simp (disch := first|exact dis|fail) only [go_sem, simprocAttr, ↓EU_rg, h1, h2]
 obtain ⟨q, e, rfl⟩ := this
 exact e
theorem coreAge_ev (q : CQ h cb qb lb mb v tag base cur l idle age) : EF Tryz.prog O0 60 [ptr cb 0] h = some (.int .i64 age, h) := by
 have : WPo (EF Tryz.prog O0 60 [ptr cb 0] h) fun q => q = (.int .i64 age, h) := by
  have h1 := q.gb
  rw [EF_body (O := O0) (by kernel_rfl) Tryz.func60 rfl (rs := [.tmp 2]) rfl (bad := []) (by kernel_rfl) _ _ (m := 7) rfl]
  simp (disch := first|exact dis|fail) only [go_sem, simprocAttr, ↓EU_rg, h1]
 obtain ⟨q, e, rfl⟩ := this
 exact e
theorem coreForm_ev (q : CQ h cb qb lb mb v tag base cur l idle age) (hl : l.length < 900000) (hw : Near base l) : WPo (EF Tryz.prog O0 13 [ptr cb 0] h) fun q => ∃ v, q.1 = formV cur v ∧ OW itemE 3 q.2 v (l.map (itP base)) ∧ Fresh h.next v ∧ Ext h q.2 := by
 have h1 := q.gb
 have h2 := q.pq.gb
 have l1 := q.lt
 have l2 := q.pq.lt
 have hF := formI_ev tag base cur l v lb (h.push (.cells [.int .i64 0, .slice none 0 1] 0)) q.pq.tg (q.pq.lq.ext ((Ext.refl h).push _)) hl hw
 rw [EF_body (O := O0) (by kernel_rfl) Tryz.func13 rfl (rs := [.cell 2 24]) rfl (bad := []) (by kernel_rfl) _ _ (m := 11) rfl]
 simp (disch := first|exact dis|fail) only [go_sem, simprocAttr, ↓EU_rg, h1, h2]
 repeat refine WPo_ob ?_
 refine hF.mono ?_
 rintro ⟨w, h1⟩ ⟨u, e, ou, fu, x1⟩
 simp only at e ou x1
 subst e
 unfold formV
 have hn1 := x1.le
 rw [next_push] at hn1
 have hc1 : h1.get h.next = .cells [.int .i64 0, .slice none 0 1] 0 := by rw [x1.old _ (by rw [next_push]; omega)]; exact get_push_new _ _
 obtain ⟨au, ku, hu⟩ := ou.val
 subst hu
 simp (disch := first|exact dis|fail) only [go_sem, simprocAttr, ↓EU_rg, hc1]
 refine ⟨_, rfl, ou.mod (Mod.set (S := fun j => j = h.next) (Mod.refl _ _) _ _ (fun _ => rfl)) (fun j hj q => by have := fu j hj; rw [next_push] at this; omega), fu.mono (by rw [next_push]; omega), (((Ext.refl h).push _).trans x1).set _ _ (by omega)⟩
end
theorem lookF {r : Nat} {es : List MapEntry} {clk : Nat} {f : Int → Option Value} {h : Heap} (hg : h.get r = .map es clk) (m : MR es clk f) (k : Int) (z : Value) : LOOK h z (.map (some r)) (.int .i64 k) false = some ((f k).getD z, h) := by
 unfold LOOK
 show ob (some r) (fun r => ob (some (IntKind.i64, k)) fun k => ob (mapB (h.get r)) _) = _
 rw [ob_some, ob_some, hg]
 show ob (findE .i64 k es 0) _ = _
 rcases m.find k with ⟨h1, _, h4⟩ | ⟨j, e, h1, h2, h3, h4⟩
 ·rw [h4, h1]; rfl
 ·rw [h4, h1]; rfl
structure SMap (h : Heap) (mb : Nat) (s : Int → Int) : Prop where
 mp : ∃ es clk f, h.get mb = .map es clk ∧ MR es clk f ∧ ∀ k, (f k = none ∧ s k = 0) ∨ f k = some (.int .i64 (s k))
theorem SMap.n {h : Heap} {mb : Nat} {s : Int → Int} (m : SMap h mb s) : NMap h mb := by
 obtain ⟨es, clk, f, h1, h2, h3⟩ := m.mp
 refine ⟨es, clk, f, h1, h2, fun k v e => ?_⟩
 rcases h3 k with ⟨q, _⟩ | q
 ·rw [q] at e; cases e
 ·rw [q] at e; cases e; exact ⟨_, rfl⟩
theorem NMap.s {h : Heap} {mb : Nat} (m : NMap h mb) : ∃ s, SMap h mb s := by
 obtain ⟨es, clk, f, h1, h2, h3⟩ := m
 refine ⟨fun k => match f k with | some (.int _ n) => n | _ => 0, ⟨es, clk, f, h1, h2, fun k => ?_⟩⟩
 cases hk : f k with
 | none => exact .inl ⟨rfl, rfl⟩
 | some v =>
  obtain ⟨n, rfl⟩ := h3 k v hk
  exact .inr rfl
theorem SMap.mod {h h' : Heap} {mb : Nat} {s : Int → Int} {S : Nat → Prop} (m : SMap h mb s) (hl : mb < h.next) (x : Mod S h h') (hs : ¬ S mb) : SMap h' mb s := by
 obtain ⟨es, clk, f, h1, h2, h3⟩ := m.mp
 exact ⟨es, clk, f, (x.old mb hl hs).trans h1, h2, h3⟩
noncomputable def updI (s : Int → Int) (k v x : Int) : Int := if x = k then v else s x
noncomputable def runN (cur : Int) (l : List Pnt) : Int := if (nowI cur l).isSome then chN cur l else -1
section
variable {cb qb lb mb : Nat} {v : Value} {tag base cur : Int} {l : List Pnt} {idle age : Int} {h : Heap} {s : Int → Int}
theorem coreDone_ev (e : Int) (x : Value × Value × Int) (hg : h.get cb = .cells [x.1, x.2.1, .int .i64 x.2.2, .int .i64 age] 0) (ha : 0 ≤ age ∧ age < 4611686018427387904) :
  EF Tryz.prog O0 41 [ptr cb 0, .int .i64 e] h = some (.int .i64 e, if e = 0 then h.set cb (.cells [x.1, x.2.1, .int .i64 x.2.2, .int .i64 (age + 1)] 0) else h) := by
 have : WPo (EF Tryz.prog O0 41 [ptr cb 0, .int .i64 e] h) fun q => q = (.int .i64 e, if e = 0 then h.set cb (.cells [x.1, x.2.1, .int .i64 x.2.2, .int .i64 (age + 1)] 0) else h) := by
  have hw : wrapF .i64 (age + 1) = age + 1 := wrap64 (by omega)
  rw [EF_body (O := O0) (by kernel_rfl) Tryz.func41 rfl (rs := [.tmp 4]) rfl (bad := []) (by kernel_rfl) _ _ (m := 15) rfl]
  by_cases q : e = 0
  ·subst q
   have hd : decide ((0 : Int) = 0) = true := rfl
   simp (disch := first|exact dis|fail) only [go_sem, simprocAttr, ↓EU_rg, hg, hw, hd, if_true]
  ·have hd : decide (e = 0) = false := decide_eq_false q
   simp (disch := first|exact dis|fail) only [go_sem, simprocAttr, ↓EU_rg, hd, if_neg q]
 obtain ⟨q, e, rfl⟩ := this
 exact e
theorem coreRun_ev (q : CQ h cb qb lb mb v tag base cur l idle age) (hs : SMap h mb s) (hl : l.length < 900000) (hc : Calm l) (ha : 0 ≤ age ∧ age < 4611686018427387904) (hi : 0 ≤ idle ∧ idle < 4611686018427387904) :
  WPo (EF Tryz.prog O0 17 [ptr cb 0] h) fun r => r.1 = .tuple ⟨[.int .i64 (runN (curR tag cur l) l), .int .i64 0]⟩ ∧
   CQ r.2 cb qb lb mb v tag (chB base (curR tag cur l) l) (curR tag cur l) (chL (curR tag cur l) l) (if (nowI (curR tag cur l) l).isSome then idle else idle + 1) (age + 1) ∧
   SMap r.2 mb (if (nowI (curR tag cur l) l).isSome then updI s (chN (curR tag cur l) l) (wrapF .i64 (s (chN (curR tag cur l) l) + 1)) else s) ∧ Mod (fun j => j = cb ∨ j = mb ∨ j = lb ∨ blkOf v j) h r.2 := by
 have g := q.gb
 have hb := q.lt
 rw [EF_body (O := O0) (by kernel_rfl) Tryz.func17 rfl (rs := [.tmp 2, .tmp 3]) rfl (bad := []) (by kernel_rfl) _ _ (m := 37) rfl]
 simp (disch := first|exact dis|fail) only [go_sem, simprocAttr, ↓EU_rg, g]
 repeat refine WPo_ob ?_
 refine (polRun_ev q.pq hl hc).mono ?_
 rintro ⟨w, h1⟩ ⟨e, p1, m1⟩
 simp only at e p1 m1
 subst e
 generalize hcu : curR tag cur l = cu at *
 have hcl : cb ≠ lb := fun e => by have := q.pq.lq.gb; rw [← e, g] at this; cases this
 have hcq : cb ≠ qb := fun e => by have := q.pq.gb; rw [← e, g] at this; cases this
 have hcv : ¬ blkOf v cb := ow_ne q.pq.lq.ow g (by decide)
 have hml : mb ≠ lb := fun e => q.mne q.pq.lq.gb e.symm
 have hmq : mb ≠ qb := fun e => q.mne q.pq.gb e.symm
 have hmc : cb ≠ mb := q.mne g
 have hmv : ¬ blkOf v mb := fun e => by
  obtain ⟨cs, hx⟩ := ow_cells q.pq.lq.ow e
  exact q.mne hx rfl
 have g1 := (m1.old cb hb fun e => e.elim hcl hcv).trans g
 have s1 := hs.mod q.ml m1 fun e => e.elim hml hmv
 have l1 : cb < h1.next := Nat.lt_of_lt_of_le hb m1.le
 have ml1 : mb < h1.next := Nat.lt_of_lt_of_le q.ml m1.le
 have mS : Mod (fun j => j = cb ∨ j = mb ∨ j = lb ∨ blkOf v j) h h1 := m1.mono fun _ _ e => .inr (.inr e)
 unfold runN chE
 cases hn : (nowI cu l).isSome with
 | true =>
  obtain ⟨es, clk, f, hm, mr, hf⟩ := s1.mp
  have hk := lookF hm mr (chN cu l) (.int .i64 0)
  have hkv : (f (chN cu l)).getD (.int .i64 0) = .int .i64 (s (chN cu l)) := by
   rcases hf (chN cu l) with ⟨k1, k2⟩ | k1
   ·rw [k1, k2]; rfl
   ·rw [k1]; rfl
  rw [hkv] at hk
  obtain ⟨es', clk', hu, mr'⟩ := mupd_ok hm mr (chN cu l) (.int .i64 (wrapF .i64 (s (chN cu l) + 1)))
  have hd : decide ((0 : Int) = 0) = true := rfl
  have g2 : (h1.set mb (.map es' clk')).get cb = _ := (get_set_ne _ hmc).trans g1
  have hD := coreDone_ev 0 (ptr qb 0, .map (some mb), idle) g2 ha
  rw [if_pos rfl] at hD
  simp (disch := first|exact dis|fail) only [go_sem, simprocAttr, ↓EU_rg, g1, hk, hu, hd, if_true, hD]
  have mm : Mod (fun j => j = cb ∨ j = mb) h1 ((h1.set mb (.map es' clk')).set cb (.cells [ptr qb 0, .map (some mb), .int .i64 idle, .int .i64 (age + 1)] 0)) := ((Mod.refl _ h1).set _ _ fun _ => .inr rfl).set _ _ fun _ => .inl rfl
  have hM : ((h1.set mb (.map es' clk')).set cb (.cells [ptr qb 0, .map (some mb), .int .i64 idle, .int .i64 (age + 1)] 0)).get mb = .map es' clk' := by rw [get_set_ne _ hmc.symm]; exact get_set_same _ _ _
  have sM : SMap ((h1.set mb (.map es' clk')).set cb (.cells [ptr qb 0, .map (some mb), .int .i64 idle, .int .i64 (age + 1)] 0)) mb (updI s (chN cu l) (wrapF .i64 (s (chN cu l) + 1))) := ⟨es', clk', _, hM, mr', fun k => by
   unfold upd updI
   by_cases q : k = chN cu l
   ·rw [if_pos q, if_pos q]; exact .inr rfl
   ·rw [if_neg q, if_neg q]; exact hf k⟩
  exact ⟨trivial, ⟨l1, get_set_same _ _ _, ml1, sM.n, p1.mod mm (fun e => e.elim hcq.symm hmq.symm) (fun e => e.elim hcl.symm hml.symm) fun i hi e => e.elim (fun e => hcv (e ▸ hi)) (fun e => hmv (e ▸ hi))⟩, sM, mS.trans (mm.mono fun _ _ e => e.elim .inl fun e => .inr (.inl e))⟩
 | false =>
  have hd : decide ((14 : Int) = 0) = false := rfl
  have hd2 : decide ((14 : Int) = 14) = true := rfl
  have hw : wrapF .i64 (idle + 1) = idle + 1 := wrap64 (by omega)
  have g2 : (h1.set cb (.cells [ptr qb 0, .map (some mb), .int .i64 (idle + 1), .int .i64 age] 0)).get cb = _ := get_set_same _ _ _
  have hD := coreDone_ev 0 (ptr qb 0, .map (some mb), idle + 1) g2 ha
  rw [if_pos rfl, set_set] at hD
  simp (disch := first|exact dis|fail) only [go_sem, simprocAttr, ↓EU_rg, g1, hw, hd, hd2, if_false, Bool.false_eq_true, hD]
  have mm : Mod (fun j => j = cb) h1 (h1.set cb (.cells [ptr qb 0, .map (some mb), .int .i64 (idle + 1), .int .i64 (age + 1)] 0)) := (Mod.refl _ h1).set _ _ fun _ => rfl
  have sM := s1.mod ml1 mm hmc.symm
  exact ⟨trivial, ⟨l1, get_set_same _ _ _, ml1, sM.n, p1.mod mm hcq.symm hcl.symm fun i hi e => hcv (e ▸ hi)⟩, sM, mS.trans (mm.mono fun _ _ e => .inl e)⟩
end

noncomputable def stepN (c : Nat) : Nat := if c % 2 = 1 then (c >>> 1) ^^^ 2197175160 else c >>> 1
noncomputable def iterN : Nat → Nat → Nat
 | 0, c => c
 | n + 1, c => iterN n (stepN c)
noncomputable def byteN (c : Nat) (b : UInt8) : Nat := iterN 8 (c ^^^ b.toNat)
noncomputable def foldN (c : Nat) (l : List UInt8) : Nat := l.foldl byteN c
noncomputable def crcN (l : List UInt8) : Nat := 4294967295 ^^^ foldN 4294967295 l
theorem shr1_lt {c n : Nat} (h : c < n) : c >>> 1 < n := by
 rw [Nat.shiftRight_eq_div_pow]; omega
theorem xor_lt32 {a b : Nat} (h : a < 4294967296) (k : b < 4294967296) : a ^^^ b < 4294967296 := Nat.xor_lt_two_pow (n := 32) h k
theorem stepN_lt {c : Nat} (h : c < 4294967296) : stepN c < 4294967296 := by
 unfold stepN
 split
 ·exact xor_lt32 (shr1_lt h) (by decide)
 ·exact shr1_lt h
theorem iterN_lt : ∀ (n c : Nat), c < 4294967296 → iterN n c < 4294967296
 | 0, c, h => h
 | n + 1, c, h => iterN_lt n _ (stepN_lt h)
theorem byteN_lt {c : Nat} (b : UInt8) (h : c < 4294967296) : byteN c b < 4294967296 := iterN_lt 8 _ (xor_lt32 h (by have := b.toNat_lt; omega))
theorem foldN_lt : ∀ (l : List UInt8) (c : Nat), c < 4294967296 → foldN c l < 4294967296
 | [], c, h => h
 | b :: l, c, h => foldN_lt l _ (byteN_lt b h)
theorem crcN_lt (l : List UInt8) : crcN l < 4294967296 := xor_lt32 (by decide) (foldN_lt l _ (by decide))
theorem iterN_snoc : ∀ (n c : Nat), iterN (n + 1) c = stepN (iterN n c)
 | 0, c => rfl
 | n + 1, c => iterN_snoc n (stepN c)
theorem step_code {c : Nat} (h : c < 4294967296) : ∃ m : Nat, wrapF .u32 (0 - ((c &&& 1 : Nat) : Int)) = (m : Int) ∧ m < 4294967296 ∧ (c >>> 1) ^^^ (2197175160 &&& m) = stepN c := by
 unfold stepN
 rw [Nat.and_one_is_mod]
 rcases Nat.mod_two_eq_zero_or_one c with q | q
 ·rw [q, if_neg (by decide)]
  exact ⟨0, rfl, by decide, by rw [Nat.and_zero, Nat.xor_zero]⟩
 ·rw [q, if_pos rfl]
  exact ⟨4294967295, rfl, by decide, rfl⟩
theorem of_ev (l : List UInt8) (s : Value) (h : Heap) (hs : SL byteE 1 h s l) (hl : l.length < 900000) :
  Pu (EF Tryz.prog O0 89 [s] h) h (.int .u32 (crcN l : Nat)) := by
 unfold Pu
 rw [EF_body (O := O0) (by kernel_rfl) Tryz.func89 rfl (rs := [.tmp 2]) rfl (bad := []) (by kernel_rfl) _ _ (m := 29) rfl]
 obtain ⟨a, c, hv⟩ := hs.val
 subst hv
 simp (disch := first|exact dis|fail) only [go_sem, simprocAttr, ↓EU_rg]
 repeat refine WPo_ob ?_
 refine (LP_rule (fun m st => ∃ i tm, st = ⟨tm, h, []⟩ ∧ m = l.length - i ∧ i ≤ l.length ∧ Fr.get tm 6 = .slice a l.length c ∧ Fr.get tm 7 = .int .i64 l.length ∧ Fr.get tm 8 = .int .i64 i ∧ Fr.get tm 3 = .int .u32 (foldN 4294967295 (l.take i) : Nat))
  (fun q => ∃ tm, q.2 = ⟨tm, h, []⟩ ∧ q.1 = .exit 0 ∧ Fr.get tm 3 = .int .u32 (foldN 4294967295 l : Nat)) ?_ l.length _ _ ?_ ?_).mono ?_
 ·rintro m _ ⟨i, tm, rfl, rfl, hi, g6, g7, g8, g3⟩
  simp (disch := first|exact dis|fail) only [go_sem, simprocAttr, ↓EU_rg, g6, g7, g8, g3]
  ((repeat refine WPo_ob ?_); (first | refine WPo_cond (fun b1 => ?_) (fun b1 => ?_) | refine WPo_gard (fun b1 => ?_) (fun b1 => ?_) | refine WPo_gardT (fun b1 => ?_) (fun b1 => ?_)) <;> (try simp only [Bool.not_eq_true', Bool.not_eq_false'] at b1))
  ·simp only [decide_eq_true_eq] at b1
   have hi' : i < l.length := by omega
   obtain ⟨x, hx⟩ : ∃ x, l[i]? = some x := ⟨_, List.getElem?_eq_getElem hi'⟩
   obtain ⟨b, o, c', e, hb', _, hr⟩ := hs.at hx rfl
   cases e
   have hr0 := hr 0 _ rfl
   rw [add_z] at hr0
   have hlt := foldN_lt (l.take i) 4294967295 (by decide)
   have hxl := x.toNat_lt
   have hcs : foldN 4294967295 (l.take (i + 1)) = byteN (foldN 4294967295 (l.take i)) x := by
    rw [List.take_add_one, hx]; unfold foldN; rw [List.foldl_append]; rfl
   simp (disch := first|exact dis|fail) only [go_sem, simprocAttr, ↓EU_rg, g6, g7, g8, g3, hr0]
   repeat refine WPo_ob ?_
   refine (LP_rule (fun m st => ∃ j tm', st = ⟨tm', h, []⟩ ∧ m = 8 - j ∧ j ≤ 8 ∧ Fr.get tm' 6 = .slice (some ⟨b, o, none⟩) l.length c ∧ Fr.get tm' 7 = .int .i64 l.length ∧ Fr.get tm' 8 = .int .i64 i ∧ Fr.get tm' 16 = .int .i64 j ∧ Fr.get tm' 3 = .int .u32 (iterN j (foldN 4294967295 (l.take i) ^^^ x.toNat) : Nat))
    (fun q => ∃ tm', q.2 = ⟨tm', h, []⟩ ∧ q.1 = .exit 2 ∧ Fr.get tm' 6 = .slice (some ⟨b, o, none⟩) l.length c ∧ Fr.get tm' 7 = .int .i64 l.length ∧ Fr.get tm' 8 = .int .i64 i ∧ Fr.get tm' 3 = .int .u32 (byteN (foldN 4294967295 (l.take i)) x : Nat)) ?_ 8 _ _ ?_ ?_).mono ?_
   ·rintro m _ ⟨j, tm', rfl, rfl, hj, k6, k7, k8, k16, k3⟩
    have hlt2 := iterN_lt j _ (xor_lt32 hlt (by omega : x.toNat < 4294967296))
    obtain ⟨w, hw, hw2, hw3⟩ := step_code hlt2
    simp (disch := first|exact dis|fail) only [go_sem, simprocAttr, ↓EU_rg, k6, k7, k8, k16, k3, hw]
    ((repeat refine WPo_ob ?_); (first | refine WPo_cond (fun b2 => ?_) (fun b2 => ?_) | refine WPo_gard (fun b2 => ?_) (fun b2 => ?_) | refine WPo_gardT (fun b2 => ?_) (fun b2 => ?_)) <;> (try simp only [Bool.not_eq_true', Bool.not_eq_false'] at b2))
    ·simp only [decide_eq_true_eq] at b2
     have hlt3 : (iterN j (foldN 4294967295 (l.take i) ^^^ x.toNat)) >>> 1 < 4294967296 := shr1_lt hlt2
     have hlt4 : 2197175160 &&& w < 4294967296 := Nat.lt_of_le_of_lt Nat.and_le_left (by decide)
     have hlt5 : (iterN j (foldN 4294967295 (l.take i) ^^^ x.toNat)) &&& 1 < 4294967296 := Nat.lt_of_le_of_lt Nat.and_le_left hlt2
     simp (disch := first|exact dis|fail) only [go_sem, simprocAttr, ↓EU_rg, k6, k7, k8, k16, k3, hw, hw3]
     refine ⟨_, by omega, j + 1, _, rfl, rfl, by omega, by simp (disch := first|exact dis|fail) only [go_sem, simprocAttr, ↓EU_rg, k6], by simp (disch := first|exact dis|fail) only [go_sem, simprocAttr, ↓EU_rg, k7], by simp (disch := first|exact dis|fail) only [go_sem, simprocAttr, ↓EU_rg, k8], by simp (disch := first|exact dis|fail) only [go_sem, simprocAttr, ↓EU_rg], ?_⟩
     simp (disch := first|exact dis|fail) only [go_sem, simprocAttr, ↓EU_rg, iterN_snoc]
    ·simp only [decide_eq_false_iff_not] at b2
     have : j = 8 := by omega
     subst this
     simp (disch := first|exact dis|fail) only [go_sem, simprocAttr, ↓EU_rg]
     exact ⟨_, rfl, trivial, by simp (disch := first|exact dis|fail) only [go_sem, simprocAttr, ↓EU_rg, k6], by simp (disch := first|exact dis|fail) only [go_sem, simprocAttr, ↓EU_rg, k7], by simp (disch := first|exact dis|fail) only [go_sem, simprocAttr, ↓EU_rg, k8], by simp (disch := first|exact dis|fail) only [go_sem, simprocAttr, ↓EU_rg, k3]; all_goals rfl⟩
   ·exact ⟨0, _, rfl, rfl, by omega, by simp (disch := first|exact dis|fail) only [go_sem, simprocAttr, ↓EU_rg, g6], by simp (disch := first|exact dis|fail) only [go_sem, simprocAttr, ↓EU_rg, g7], by simp (disch := first|exact dis|fail) only [go_sem, simprocAttr, ↓EU_rg, g8], by simp (disch := first|exact dis|fail) only [go_sem, simprocAttr, ↓EU_rg]; all_goals rfl, by simp (disch := first|exact dis|fail) only [go_sem, simprocAttr, ↓EU_rg]; all_goals rfl⟩
   ·omega
   ·rintro ⟨q, _⟩ ⟨tm', rfl, rfl, k6, k7, k8, k3⟩
    simp (disch := first|exact dis|fail) only [go_sem, simprocAttr, ↓EU_rg, k6, k7, k8]
    exact ⟨_, by omega, i + 1, _, rfl, rfl, by omega, by simp (disch := first|exact dis|fail) only [go_sem, simprocAttr, ↓EU_rg, k6], by simp (disch := first|exact dis|fail) only [go_sem, simprocAttr, ↓EU_rg, k7], by simp (disch := first|exact dis|fail) only [go_sem, simprocAttr, ↓EU_rg], by simp (disch := first|exact dis|fail) only [go_sem, simprocAttr, ↓EU_rg, k3]; rw [hcs]⟩
  ·simp only [decide_eq_false_iff_not] at b1
   simp (disch := first|exact dis|fail) only [go_sem, simprocAttr, ↓EU_rg]
   have : i = l.length := by omega
   subst this
   rw [List.take_length] at g3
   exact ⟨_, rfl, trivial, by simp (disch := first|exact dis|fail) only [go_sem, simprocAttr, ↓EU_rg, g3]⟩
 ·exact ⟨0, _, rfl, rfl, by omega, by simp (disch := first|exact dis|fail) only [go_sem, simprocAttr, ↓EU_rg], by simp (disch := first|exact dis|fail) only [go_sem, simprocAttr, ↓EU_rg], by simp (disch := first|exact dis|fail) only [go_sem, simprocAttr, ↓EU_rg]; all_goals rfl, by simp (disch := first|exact dis|fail) only [go_sem, simprocAttr, ↓EU_rg]; all_goals rfl⟩
 ·omega
 ·rintro ⟨q, _⟩ ⟨tm, rfl, rfl, g3⟩
  have hlt := foldN_lt l 4294967295 (by decide)
  simp (disch := first|exact dis|fail) only [go_sem, simprocAttr, ↓EU_rg, g3]
  exact ⟨rfl, Ext.refl _⟩
theorem clone_ev (l : List UInt8) (s : Value) (h : Heap) (hs : SL byteE 1 h s l) (hl : l.length < 900000) :
  WPo (EF Tryz.prog O0 39 [s] h) fun q => OW byteE 1 q.2 q.1 l ∧ Fresh h.next q.1 ∧ Ext h q.2 := by
 rw [EF_body (O := O0) (by kernel_rfl) Tryz.func39 rfl (rs := [.tmp 2]) rfl (bad := []) (by kernel_rfl) _ _ (m := 8) rfl]
 have hs' := hs
 cases hs with
 | nil =>
  simp (disch := first|exact dis|fail) only [go_sem, simprocAttr, ↓EU_rg]
  exact ⟨.nil, Fresh.nil _ _ _, Ext.refl _⟩
 | mk b o c l cs hb hc hll hx hcap hq =>
  simp (disch := first|exact dis|fail) only [go_sem, simprocAttr, ↓EU_rg]
  repeat refine WPo_ob ?_
  refine append_own (h0 := h) (l := []) (l' := l) fc_ap_37_37 (fun _ => rfl) (by decide) byteE_scal ((Ext.refl h).push _) (OW.lit byteE_len h []) (Fresh.mk _ _ _ (Nat.le_refl _)) (hs'.ext ((Ext.refl h).push _)) (by simp; omega) (by simp; omega) fun v h' ho hf x _ _ => ?_
  simp (disch := first|exact dis|fail) only [go_sem, simprocAttr, ↓EU_rg]
  exact ⟨ho, hf, x⟩
noncomputable def tailN (c : Nat) : List UInt8 := [UInt8.ofNat (c >>> 24), UInt8.ofNat (c >>> 16), UInt8.ofNat (c >>> 8), UInt8.ofNat c]
noncomputable def sealN (l : List UInt8) : List UInt8 := l ++ tailN (crcN l)
theorem conv_u8 (n : Nat) : wrapF .u8 (n : Int) = ((UInt8.ofNat n).toNat : Int) := by
 show Int.emod (n : Int) 256 = _
 rw [UInt8.toNat_ofNat']
 rfl
theorem put_ev (l : List UInt8) (s : Value) (h : Heap) (hs : SL byteE 1 h s l) (hl : l.length < 800000) :
  WPo (EF Tryz.prog O0 81 [s] h) fun q => OW byteE 1 q.2 q.1 (sealN l) ∧ Fresh h.next q.1 ∧ Ext h q.2 := by
 have hc := crcN_lt l
 rw [EF_body (O := O0) (by kernel_rfl) Tryz.func81 rfl (rs := [.tmp 2]) rfl (bad := []) (by kernel_rfl) _ _ (m := 21) rfl]
 simp (disch := first|exact dis|fail) only [go_sem, simprocAttr, ↓EU_rg]
 repeat refine WPo_ob ?_
 refine (of_ev l s h hs (by omega)).bind fun h1 x1 => ?_
 simp (disch := first|exact dis|fail) only [go_sem, simprocAttr, ↓EU_rg]
 repeat refine WPo_ob ?_
 refine (clone_ev l s h1 (hs.ext x1) (by omega)).mono ?_
 rintro ⟨v, h2⟩ ⟨ho, hf, x2⟩
 simp (disch := first|exact dis|fail) only [go_sem, simprocAttr, ↓EU_rg, conv_u8]
 repeat refine WPo_ob ?_
 refine append_own (h0 := h) (l := l) (l' := tailN (crcN l)) fc_ap_37_37 (fun _ => rfl) (by decide) byteE_scal ((x1.trans x2).push _) (ho.ext ((Ext.refl h2).push _)) (hf.mono x1.le) (OW.lit byteE_len h2 (tailN (crcN l))).sl (by simp [tailN]; omega) (by simp [tailN]; omega) fun v h' ho hf x _ _ => ?_
 simp (disch := first|exact dis|fail) only [go_sem, simprocAttr, ↓EU_rg]
 exact ⟨ho, hf, x⟩
theorem bytesEq_ev (l m : List UInt8) (s t : Value) (h : Heap) (hs : SL byteE 1 h s l) (ht : SL byteE 1 h t m) : EF Tryz.prog O0 103 [s, t] h = some (.bool (decide (l = m)), h) := by
 have : WPo (EF Tryz.prog O0 103 [s, t] h) fun q => q = (.bool (decide (l = m)), h) := by
  have e1 := conv_str fc_un_37 fc_un_9 fc_un_5 hs
  have e2 := conv_str fc_un_37 fc_un_9 fc_un_5 ht
  rw [EF_body (O := O0) (by kernel_rfl) Tryz.func103 rfl (rs := [.tmp 4]) rfl (bad := []) (by kernel_rfl) _ _ (m := 10) rfl]
  simp (disch := first|exact dis|fail) only [go_sem, simprocAttr, ↓EU_rg, e1, e2]
 obtain ⟨q, e, rfl⟩ := this
 exact e
noncomputable def openN (b : List UInt8) : Option (List UInt8) := if b.length < 4 then none else if sealN (b.take (b.length - 4)) = b then some (b.take (b.length - 4)) else none
theorem get_ev (l : List UInt8) (s : Value) (h : Heap) (hs : SL byteE 1 h s l) (hl : l.length < 800000) :
  WPo (EF Tryz.prog O0 99 [s] h) fun q => Ext h q.2 ∧ match openN l with
   | none => q.1 = .tuple ⟨[.slice none 0 1, .int .i64 9]⟩
   | some b => ∃ v, q.1 = .tuple ⟨[v, .int .i64 0]⟩ ∧ OW byteE 1 q.2 v b ∧ Fresh h.next v := by
 unfold openN
 rw [EF_body (O := O0) (by kernel_rfl) Tryz.func99 rfl (rs := [.tmp 2, .tmp 3]) rfl (bad := []) (by kernel_rfl) _ _ (m := 23) rfl]
 obtain ⟨a, c, hv⟩ := hs.val
 subst hv
 simp (disch := first|exact dis|fail) only [go_sem, simprocAttr, ↓EU_rg]
 ((repeat refine WPo_ob ?_); (first | refine WPo_cond (fun b1 => ?_) (fun b1 => ?_) | refine WPo_gard (fun b1 => ?_) (fun b1 => ?_) | refine WPo_gardT (fun b1 => ?_) (fun b1 => ?_)) <;> (try simp only [Bool.not_eq_true', Bool.not_eq_false'] at b1))
 ·have b1' := b1
  simp only [decide_eq_false_iff_not] at b1'
  rw [if_neg (by omega)]
  obtain ⟨u, hu, su, bu⟩ := cut_to fc_sl_37 hs .i64 ((l.length : Int) - 4) (l.length - 4) (by omega) (by omega)
  simp (disch := first|exact dis|fail) only [go_sem, simprocAttr, ↓EU_rg, hu, b1]
  repeat refine WPo_ob ?_
  refine (put_ev _ u h su (by rw [List.length_take]; omega)).mono ?_
  rintro ⟨v, h1⟩ ⟨ho, hf, x1⟩
  have e1 := bytesEq_ev _ _ v _ h1 ho.sl (hs.ext x1)
  simp (disch := first|exact dis|fail) only [go_sem, simprocAttr, ↓EU_rg, e1, b1]
  ((repeat refine WPo_ob ?_); (first | refine WPo_cond (fun b2 => ?_) (fun b2 => ?_) | refine WPo_gard (fun b2 => ?_) (fun b2 => ?_) | refine WPo_gardT (fun b2 => ?_) (fun b2 => ?_)) <;> (try simp only [Bool.not_eq_true', Bool.not_eq_false'] at b2))
  ·simp only [decide_eq_false_iff_not] at b2
   rw [if_neg b2]
   simp (disch := first|exact dis|fail) only [go_sem, simprocAttr, ↓EU_rg, b2]
   exact ⟨x1, by trivial⟩
  ·have b2' := b2
   simp only [decide_eq_true_eq] at b2'
   rw [if_pos b2']
   obtain ⟨u', hu', su', bu'⟩ := cut_to fc_sl_37 (hs.ext x1) .i64 ((l.length : Int) - 4) (l.length - 4) (by omega) (by omega)
   simp (disch := first|exact dis|fail) only [go_sem, simprocAttr, ↓EU_rg, b2, hu']
   repeat refine WPo_ob ?_
   refine (clone_ev _ u' h1 su' (by rw [List.length_take]; omega)).mono ?_
   rintro ⟨v', h2⟩ ⟨ho2, hf2, x2⟩
   simp (disch := first|exact dis|fail) only [go_sem, simprocAttr, ↓EU_rg]
   exact ⟨x1.trans x2, v', rfl, ho2, hf2.mono x1.le⟩
 ·have b1' := b1
  simp only [decide_eq_true_eq] at b1'
  rw [if_pos (by omega)]
  simp (disch := first|exact dis|fail) only [go_sem, simprocAttr, ↓EU_rg, b1]
  exact ⟨Ext.refl _, by trivial⟩
theorem crc_ev (l : List UInt8) (s : Value) (h : Heap) (hs : SL byteE 1 h s l) (hl : l.length < 900000) :
  Pu (EF Tryz.prog O0 66 [s] h) h (.int .u32 (crcN l : Nat)) := by
 unfold Pu
 rw [EF_body (O := O0) (by kernel_rfl) Tryz.func66 rfl (rs := [.tmp 2]) rfl (bad := []) (by kernel_rfl) _ _ (m := 34) rfl]
 obtain ⟨a, c, hv⟩ := hs.val
 subst hv
 simp (disch := first|exact dis|fail) only [go_sem, simprocAttr, ↓EU_rg]
 repeat refine WPo_ob ?_
 refine (LP_rule (fun m st => ∃ i tm, st = ⟨tm, h, []⟩ ∧ m = l.length - i ∧ i ≤ l.length ∧ Fr.get tm 0 = .slice a l.length c ∧ Fr.get tm 4 = .int .i64 i ∧ Fr.get tm 3 = .int .u32 (foldN 4294967295 (l.take i) : Nat))
  (fun q => ∃ tm, q.2 = ⟨tm, h, []⟩ ∧ q.1 = .exit 0 ∧ Fr.get tm 3 = .int .u32 (foldN 4294967295 l : Nat)) ?_ l.length _ _ ?_ ?_).mono ?_
 ·rintro m _ ⟨i, tm, rfl, rfl, hi, g0, g4, g3⟩
  simp (disch := first|exact dis|fail) only [go_sem, simprocAttr, ↓EU_rg, g0, g4, g3]
  ((repeat refine WPo_ob ?_); (first | refine WPo_cond (fun b1 => ?_) (fun b1 => ?_) | refine WPo_gard (fun b1 => ?_) (fun b1 => ?_) | refine WPo_gardT (fun b1 => ?_) (fun b1 => ?_)) <;> (try simp only [Bool.not_eq_true', Bool.not_eq_false'] at b1))
  ·simp only [decide_eq_true_eq] at b1
   have hi' : i < l.length := by omega
   obtain ⟨x, hx⟩ : ∃ x, l[i]? = some x := ⟨_, List.getElem?_eq_getElem hi'⟩
   obtain ⟨b, o, c', e, hb', _, hr⟩ := hs.at hx rfl
   cases e
   have hr0 := hr 0 _ rfl
   rw [add_z] at hr0
   have hlt := foldN_lt (l.take i) 4294967295 (by decide)
   have hxl := x.toNat_lt
   have hcs : foldN 4294967295 (l.take (i + 1)) = byteN (foldN 4294967295 (l.take i)) x := by
    rw [List.take_add_one, hx]; unfold foldN; rw [List.foldl_append]; rfl
   simp (disch := first|exact dis|fail) only [go_sem, simprocAttr, ↓EU_rg, g0, g4, g3, hr0]
   repeat refine WPo_ob ?_
   refine (LP_rule (fun m st => ∃ j tm', st = ⟨tm', h, []⟩ ∧ m = 8 - j ∧ j ≤ 8 ∧ Fr.get tm' 0 = .slice (some ⟨b, o, none⟩) l.length c ∧ Fr.get tm' 4 = .int .i64 i ∧ Fr.get tm' 5 = .int .i64 j ∧ Fr.get tm' 3 = .int .u32 (iterN j (foldN 4294967295 (l.take i) ^^^ x.toNat) : Nat))
    (fun q => ∃ tm', q.2 = ⟨tm', h, []⟩ ∧ q.1 = .exit 2 ∧ Fr.get tm' 0 = .slice (some ⟨b, o, none⟩) l.length c ∧ Fr.get tm' 4 = .int .i64 i ∧ Fr.get tm' 3 = .int .u32 (byteN (foldN 4294967295 (l.take i)) x : Nat)) ?_ 8 _ _ ?_ ?_).mono ?_
   ·rintro m _ ⟨j, tm', rfl, rfl, hj, k0, k4, k5, k3⟩
    have hlt2 := iterN_lt j _ (xor_lt32 hlt (by omega : x.toNat < 4294967296))
    have hst := iterN_snoc j (foldN 4294967295 (l.take i) ^^^ x.toNat)
    unfold stepN at hst
    simp (disch := first|exact dis|fail) only [go_sem, simprocAttr, ↓EU_rg, k0, k4, k5, k3]
    ((repeat refine WPo_ob ?_); (first | refine WPo_cond (fun b2 => ?_) (fun b2 => ?_) | refine WPo_gard (fun b2 => ?_) (fun b2 => ?_) | refine WPo_gardT (fun b2 => ?_) (fun b2 => ?_)) <;> (try simp only [Bool.not_eq_true', Bool.not_eq_false'] at b2))
    ·simp only [decide_eq_true_eq] at b2
     have hlt3 : (iterN j (foldN 4294967295 (l.take i) ^^^ x.toNat)) >>> 1 < 4294967296 := shr1_lt hlt2
     have hlt5 : (iterN j (foldN 4294967295 (l.take i) ^^^ x.toNat)) &&& 1 < 4294967296 := Nat.lt_of_le_of_lt Nat.and_le_left hlt2
     simp (disch := first|exact dis|fail) only [go_sem, simprocAttr, ↓EU_rg, k0, k4, k5, k3]
     ((repeat refine WPo_ob ?_); (first | refine WPo_cond (fun b3 => ?_) (fun b3 => ?_) | refine WPo_gard (fun b3 => ?_) (fun b3 => ?_) | refine WPo_gardT (fun b3 => ?_) (fun b3 => ?_)) <;> (try simp only [Bool.not_eq_true', Bool.not_eq_false'] at b3))
     ·have b3' := b3
      simp only [decide_eq_true_eq, Nat.and_one_is_mod] at b3'
      rw [if_pos (by omega)] at hst
      simp (disch := first|exact dis|fail) only [go_sem, simprocAttr, ↓EU_rg, k0, k4, k5, k3, b3]
      exact ⟨_, by omega, j + 1, _, rfl, rfl, by omega, by simp (disch := first|exact dis|fail) only [go_sem, simprocAttr, ↓EU_rg, k0], by simp (disch := first|exact dis|fail) only [go_sem, simprocAttr, ↓EU_rg, k4], by simp (disch := first|exact dis|fail) only [go_sem, simprocAttr, ↓EU_rg], by simp (disch := first|exact dis|fail) only [go_sem, simprocAttr, ↓EU_rg, hst]⟩
     ·have b3' := b3
      simp only [decide_eq_false_iff_not, Nat.and_one_is_mod] at b3'
      rw [if_neg (by omega)] at hst
      simp (disch := first|exact dis|fail) only [go_sem, simprocAttr, ↓EU_rg, k0, k4, k5, k3, b3]
      exact ⟨_, by omega, j + 1, _, rfl, rfl, by omega, by simp (disch := first|exact dis|fail) only [go_sem, simprocAttr, ↓EU_rg, k0], by simp (disch := first|exact dis|fail) only [go_sem, simprocAttr, ↓EU_rg, k4], by simp (disch := first|exact dis|fail) only [go_sem, simprocAttr, ↓EU_rg], by simp (disch := first|exact dis|fail) only [go_sem, simprocAttr, ↓EU_rg, hst]⟩
    ·simp only [decide_eq_false_iff_not] at b2
     have : j = 8 := by omega
     subst this
     simp (disch := first|exact dis|fail) only [go_sem, simprocAttr, ↓EU_rg]
     exact ⟨_, rfl, trivial, by simp (disch := first|exact dis|fail) only [go_sem, simprocAttr, ↓EU_rg, k0], by simp (disch := first|exact dis|fail) only [go_sem, simprocAttr, ↓EU_rg, k4], by simp (disch := first|exact dis|fail) only [go_sem, simprocAttr, ↓EU_rg, k3]; all_goals rfl⟩
   ·exact ⟨0, _, rfl, rfl, by omega, by simp (disch := first|exact dis|fail) only [go_sem, simprocAttr, ↓EU_rg, g0], by simp (disch := first|exact dis|fail) only [go_sem, simprocAttr, ↓EU_rg, g4], by simp (disch := first|exact dis|fail) only [go_sem, simprocAttr, ↓EU_rg]; all_goals rfl, by simp (disch := first|exact dis|fail) only [go_sem, simprocAttr, ↓EU_rg]; all_goals rfl⟩
   ·omega
   ·rintro ⟨q, _⟩ ⟨tm', rfl, rfl, k0, k4, k3⟩
    simp (disch := first|exact dis|fail) only [go_sem, simprocAttr, ↓EU_rg, k0, k4]
    exact ⟨_, by omega, i + 1, _, rfl, rfl, by omega, by simp (disch := first|exact dis|fail) only [go_sem, simprocAttr, ↓EU_rg, k0], by simp (disch := first|exact dis|fail) only [go_sem, simprocAttr, ↓EU_rg], by simp (disch := first|exact dis|fail) only [go_sem, simprocAttr, ↓EU_rg, k3]; rw [hcs]⟩
  ·simp only [decide_eq_false_iff_not] at b1
   simp (disch := first|exact dis|fail) only [go_sem, simprocAttr, ↓EU_rg]
   have : i = l.length := by omega
   subst this
   rw [List.take_length] at g3
   exact ⟨_, rfl, trivial, by simp (disch := first|exact dis|fail) only [go_sem, simprocAttr, ↓EU_rg, g3]⟩
 ·exact ⟨0, _, rfl, rfl, by omega, by simp (disch := first|exact dis|fail) only [go_sem, simprocAttr, ↓EU_rg], by simp (disch := first|exact dis|fail) only [go_sem, simprocAttr, ↓EU_rg]; all_goals rfl, by simp (disch := first|exact dis|fail) only [go_sem, simprocAttr, ↓EU_rg]; all_goals rfl⟩
 ·omega
 ·rintro ⟨q, _⟩ ⟨tm, rfl, rfl, g3⟩
  have hlt := foldN_lt l 4294967295 (by decide)
  simp (disch := first|exact dis|fail) only [go_sem, simprocAttr, ↓EU_rg, g3]
  exact ⟨rfl, Ext.refl _⟩
theorem rseal_ev (l : List UInt8) (s : Value) (h : Heap) (hs : SL byteE 1 h s l) (hl : l.length < 800000) :
  WPo (EF Tryz.prog O0 46 [s] h) fun q => OW byteE 1 q.2 q.1 (sealN l) ∧ Fresh h.next q.1 ∧ Ext h q.2 := by
 have hc := crcN_lt l
 rw [EF_body (O := O0) (by kernel_rfl) Tryz.func46 rfl (rs := [.tmp 2]) rfl (bad := []) (by kernel_rfl) _ _ (m := 22) rfl]
 simp (disch := first|exact dis|fail) only [go_sem, simprocAttr, ↓EU_rg]
 repeat refine WPo_ob ?_
 refine (crc_ev l s h hs (by omega)).bind fun h1 x1 => ?_
 simp (disch := first|exact dis|fail) only [go_sem, simprocAttr, ↓EU_rg]
 repeat refine WPo_ob ?_
 refine append_own (h0 := h) (l := []) (l' := l) fc_ap_37_37 (fun _ => rfl) (by decide) byteE_scal (x1.push _) (OW.lit byteE_len h1 []) (Fresh.mk _ _ _ x1.le) (hs.ext (x1.push _)) (by simp; omega) (by simp; omega) fun v h2 ho hf x2 _ _ => ?_
 simp (disch := first|exact dis|fail) only [go_sem, simprocAttr, ↓EU_rg, conv_u8]
 repeat refine WPo_ob ?_
 refine append_own (h0 := h) (l := l) (l' := tailN (crcN l)) fc_ap_37_37 (fun _ => rfl) (by decide) byteE_scal (x2.push _) (ho.ext ((Ext.refl h2).push _)) hf (OW.lit byteE_len h2 (tailN (crcN l))).sl (by simp [tailN]; omega) (by simp [tailN]; omega) fun v h' ho hf x _ _ => ?_
 simp (disch := first|exact dis|fail) only [go_sem, simprocAttr, ↓EU_rg]
 exact ⟨ho, hf, x⟩
theorem ropen_ev (l : List UInt8) (s : Value) (h : Heap) (hs : SL byteE 1 h s l) (hl : l.length < 800000) :
  WPo (EF Tryz.prog O0 47 [s] h) fun q => Ext h q.2 ∧ match openN l with
   | none => q.1 = .tuple ⟨[.slice none 0 1, .int .i64 9]⟩
   | some b => ∃ v, q.1 = .tuple ⟨[v, .int .i64 0]⟩ ∧ OW byteE 1 q.2 v b ∧ Fresh h.next v := by
 unfold openN
 rw [EF_body (O := O0) (by kernel_rfl) Tryz.func47 rfl (rs := [.tmp 2, .tmp 3]) rfl (bad := [1]) (by kernel_rfl) _ _ (m := 26) rfl]
 obtain ⟨a, c, hv⟩ := hs.val
 subst hv
 simp (disch := first|exact dis|fail) only [go_sem, simprocAttr]
 (first | rw [EU_region] | rw [EU_draw _ _ rfl]); simp (disch := first|exact dis|fail) only [go_sem, simprocAttr]
 rw [EU_bad _ _ rfl, EC_tab (tab := [(false, none), (false, none), (false, none), (false, none), (false, none), (false, none), (false, none), (false, none), (false, none), (true, none), (false, none), (false, none), (false, (some (0, 1))), (false, none), (false, none)]) (by kernel_rfl)]
 simp (disch := first|exact dis|fail) only [go_sem, simprocAttr, ↓EU_rg]
 ((repeat refine WPo_ob ?_); (first | refine WPo_cond (fun b1 => ?_) (fun b1 => ?_) | refine WPo_gard (fun b1 => ?_) (fun b1 => ?_) | refine WPo_gardT (fun b1 => ?_) (fun b1 => ?_)) <;> (try simp only [Bool.not_eq_true', Bool.not_eq_false'] at b1))
 ·have b1' := b1
  simp only [decide_eq_false_iff_not] at b1'
  rw [if_neg (by omega)]
  obtain ⟨u, hu, su, bu⟩ := cut_to fc_sl_37 hs .i64 ((l.length : Int) - 4) (l.length - 4) (by omega) (by omega)
  simp (disch := first|exact dis|fail) only [go_sem, simprocAttr, ↓EU_rg, hu, b1]
  repeat refine WPo_ob ?_
  refine (rseal_ev _ u h su (by rw [List.length_take]; omega)).mono ?_
  rintro ⟨v, h1⟩ ⟨ho, hf, x1⟩
  have e1 := conv_str fc_un_37 fc_un_9 fc_un_5 ho.sl
  have e2 := conv_str fc_un_37 fc_un_9 fc_un_5 (hs.ext x1)
  have e3 := conv_str fc_un_37 fc_un_9 fc_un_5 hs
  simp (disch := first|exact dis|fail) only [go_sem, simprocAttr, ↓EU_rg, e1, e2, e3, b1]
  ((repeat refine WPo_ob ?_); (first | refine WPo_cond (fun b2 => ?_) (fun b2 => ?_) | refine WPo_gard (fun b2 => ?_) (fun b2 => ?_) | refine WPo_gardT (fun b2 => ?_) (fun b2 => ?_)) <;> (try simp only [Bool.not_eq_true', Bool.not_eq_false'] at b2))
  ·simp only [decide_eq_false_iff_not] at b2
   rw [if_neg b2]
   simp (disch := first|exact dis|fail) only [go_sem, simprocAttr, ↓EU_rg, b2]
   exact ⟨x1, by trivial⟩
  ·have b2' := b2
   simp only [decide_eq_true_eq] at b2'
   rw [if_pos b2']
   obtain ⟨u', hu', su', bu'⟩ := cut_to fc_sl_37 (hs.ext (x1.push (.cells [] 1))) .i64 ((l.length : Int) - 4) (l.length - 4) (by omega) (by omega)
   simp (disch := first|exact dis|fail) only [go_sem, simprocAttr, ↓EU_rg, b2, hu']
   repeat refine WPo_ob ?_
   refine append_own (h0 := h) (l := []) (l' := l.take (l.length - 4)) fc_ap_37_37 (fun _ => rfl) (by decide) byteE_scal (x1.push _) (OW.lit byteE_len h1 []) (Fresh.mk _ _ _ x1.le) su' (by simp; omega) (by simp; omega) fun v' h2 ho2 hf2 x2 _ _ => ?_
   simp (disch := first|exact dis|fail) only [go_sem, simprocAttr, ↓EU_rg]
   exact ⟨x2, v', rfl, ho2, hf2⟩
 ·have b1' := b1
  simp only [decide_eq_true_eq] at b1'
  rw [if_pos (by omega)]
  simp (disch := first|exact dis|fail) only [go_sem, simprocAttr, ↓EU_rg, b1]
  exact ⟨Ext.refl _, by trivial⟩
end Go.Proofs.YtddgcakiceodgaaGreat.EV
