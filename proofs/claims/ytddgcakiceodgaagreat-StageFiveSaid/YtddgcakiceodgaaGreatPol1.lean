/- Contracts: the three policies: of, New, Seed, Form; policy.of, New, Seed, Tag. No condition. -/
import Derived.Test.YtddgcakiceodgaaGreatLn3
import Derived.Test.YtddgcakiceodgaaGreatIfc
namespace Go.Proofs.YtddgcakiceodgaaGreat.EV
open Go Go.Proofs
set_option linter.unusedVariables false
set_option linter.unusedSimpArgs false
set_option maxRecDepth 100000
set_option pp.deepTerms false
set_option pp.deepTerms.threshold 20
noncomputable def nilP : Value := .pointer none
/-- a line in a block of its own -/
structure LQ (h : Heap) (b : Nat) (v : Value) (base cur : Int) (l : List Pnt) : Prop where
  lt : b < h.next
  gb : h.get b = .cells [.int .i64 base, .int .i64 cur, v] 0
  ow : OW pntE 4 h v l
theorem LQ.mod {S : Nat → Prop} {h h' : Heap} {b : Nat} {v : Value} {base cur : Int} {l : List Pnt} (q : LQ h b v base cur l) (x : Mod S h h') (h1 : ¬ S b) (h2 : ∀ i, blkOf v i → ¬ S i) : LQ h' b v base cur l := ⟨Nat.lt_of_lt_of_le q.lt x.le, (x.old b q.lt h1).trans q.gb, q.ow.mod x h2⟩
theorem LQ.ext {h h' : Heap} {b : Nat} {v : Value} {base cur : Int} {l : List Pnt} (q : LQ h b v base cur l) (x : Ext h h') : LQ h' b v base cur l := ⟨Nat.lt_of_lt_of_le q.lt x.le, (x.old b q.lt).trans q.gb, q.ow.ext x⟩
theorem ow_cells {α : Type} {e : α → List Value} {es : Nat} {h : Heap} {v : Value} {l : List α} (s : OW e es h v l) {i : Nat} (hi : blkOf v i) : ∃ cs, h.get i = .cells cs es := by
  cases s with
  | nil => exact hi.elim
  | mk b o c l cs hb hc hcap hl hx => cases hi; exact ⟨cs, hc⟩
theorem ow_ne {α : Type} {e : α → List Value} {es : Nat} {h : Heap} {v : Value} {l : List α} (s : OW e es h v l) {b : Nat} {cs : List Value} {es' : Nat} (hb : h.get b = .cells cs es') (hne : es ≠ es') : ¬ blkOf v b := fun hi => by
  obtain ⟨c, e⟩ := ow_cells s hi
  rw [hb] at e
  cases e
  exact hne rfl
/-- no point so far that what it is owed has no room -/
noncomputable def Near (base : Int) (l : List Pnt) : Prop := ∀ p ∈ l, -9223372036854775808 ≤ base - p.v ∧ base - p.v < 9223372036854775808
theorem strideOf_ev (s : Value) (e : Int) (base cur : Int) (h : Heap) : WPo (EF Tryz.prog O0 70 [lineV base cur s, .int .i64 e] h) fun q => Ext h q.2 ∧ if e = 0 then ∃ b, q.1 = .tuple ⟨[ptr b 0, .int .i64 0]⟩ ∧ h.next ≤ b ∧ b < q.2.next ∧ q.2.get b = .cells [.int .i64 base, .int .i64 cur, s] 0 else q.1 = .tuple ⟨[nilP, .int .i64 e]⟩ := by
  unfold lineV
  rw [EF_body (O := O0) (by kernel_rfl) Tryz.func70 rfl (rs := [.tmp 4, .tmp 5]) rfl (bad := []) (by kernel_rfl) _ _ (m := 12) rfl]
  simp (maxSteps := 1000000) (disch := first | decide | omega | (simp only [go_sem]; first | done | omega)) only [go_sem, Int.reduceToNat, Nat.reduceMul, Nat.reduceAdd, Nat.reduceSub, ↓EU_region, ↓EU_draw]
  ((repeat refine WPo_ob ?_); (first | refine WPo_cond (fun b1 => ?_) (fun b1 => ?_) | refine WPo_gard (fun b1 => ?_) (fun b1 => ?_) | refine WPo_gardT (fun b1 => ?_) (fun b1 => ?_)) <;> (try simp only [Bool.not_eq_true', Bool.not_eq_false'] at b1))
  · simp only [decide_eq_false_iff_not] at b1
    simp (maxSteps := 1000000) (disch := first | decide | omega | (simp only [go_sem]; first | done | omega)) only [go_sem, Int.reduceToNat, Nat.reduceMul, Nat.reduceAdd, Nat.reduceSub, ↓EU_region, ↓EU_draw, if_neg b1]
    exact ⟨by repeat (first | exact Ext.refl _ | assumption | refine Ext.push ?_ _ | refine Ext.set ?_ _ _ (by first | omega | (simp only [next_push, next_set]; omega))), rfl⟩
  · simp only [decide_eq_true_eq] at b1
    simp (maxSteps := 1000000) (disch := first | decide | omega | (simp only [go_sem]; first | done | omega)) only [go_sem, Int.reduceToNat, Nat.reduceMul, Nat.reduceAdd, Nat.reduceSub, ↓EU_region, ↓EU_draw, if_pos b1]
    exact ⟨by repeat (first | exact Ext.refl _ | assumption | refine Ext.push ?_ _ | refine Ext.set ?_ _ _ (by first | omega | (simp only [next_push, next_set]; omega))), _, rfl, Nat.le_succ _, Nat.lt_succ_self _, by simp (maxSteps := 1000000) (disch := first | decide | omega | (simp only [go_sem]; first | done | omega)) only [go_sem, Int.reduceToNat, Nat.reduceMul, Nat.reduceAdd, Nat.reduceSub, ↓EU_region, ↓EU_draw]⟩
theorem strideSeed_ev (base cur : Int) (l : List Item) (s : Value) (h : Heap) (hs : SL itemE 3 h s l) (hl : l.length < 900000) :
    WPo (EF Tryz.prog O0 67 [formV cur s, .int .i64 base] h) fun q => Ext h q.2 ∧ if bgood base && goodF cur l then ∃ b v, q.1 = .tuple ⟨[ptr b 0, .int .i64 0]⟩ ∧ LQ q.2 b v base cur (l.map (ptI base)) ∧ h.next ≤ b ∧ Fresh h.next v else q.1 = .tuple ⟨[nilP, .int .i64 1]⟩ := by
  have hS := seedLine_ev base cur l s (h.push (.cells [.int .i64 cur, s] 0)) (hs.ext ((Ext.refl h).push _)) hl
  unfold formV at *
  rw [EF_body (O := O0) (by kernel_rfl) Tryz.func67 rfl (rs := [.tmp 4, .tmp 5]) rfl (bad := []) (by kernel_rfl) _ _ (m := 14) rfl]
  simp (maxSteps := 1000000) (disch := first | decide | omega | (simp only [go_sem]; first | done | omega)) only [go_sem, Int.reduceToNat, Nat.reduceMul, Nat.reduceAdd, Nat.reduceSub, ↓EU_region, ↓EU_draw]
  repeat refine WPo_ob ?_
  refine hS.mono ?_
  rintro ⟨w, h1⟩ ⟨x1, k⟩
  have xh : Ext h h1 := ((Ext.refl h).push _).trans x1
  cases hg : (bgood base && goodF cur l) with
  | false =>
    rw [hg, if_neg (by decide)] at k
    simp only at k
    subst k
    simp (maxSteps := 1000000) (disch := first | decide | omega | (simp only [go_sem]; first | done | omega)) only [go_sem, Int.reduceToNat, Nat.reduceMul, Nat.reduceAdd, Nat.reduceSub, ↓EU_region, ↓EU_draw]
    repeat refine WPo_ob ?_
    refine (strideOf_ev noS 1 0 0 h1).mono ?_
    rintro ⟨w, h2⟩ ⟨x2, k⟩
    rw [if_neg (by decide)] at k
    simp only at k
    subst k
    simp (maxSteps := 1000000) (disch := first | decide | omega | (simp only [go_sem]; first | done | omega)) only [go_sem, Int.reduceToNat, Nat.reduceMul, Nat.reduceAdd, Nat.reduceSub, ↓EU_region, ↓EU_draw, if_false, Bool.false_eq_true]
    exact ⟨xh.trans x2, trivial⟩
  | true =>
    rw [hg, if_pos rfl] at k
    obtain ⟨v, e, ov, fv⟩ := k
    simp only at e ov
    subst e
    simp (maxSteps := 1000000) (disch := first | decide | omega | (simp only [go_sem]; first | done | omega)) only [go_sem, Int.reduceToNat, Nat.reduceMul, Nat.reduceAdd, Nat.reduceSub, ↓EU_region, ↓EU_draw]
    repeat refine WPo_ob ?_
    refine (strideOf_ev v 0 base cur h1).mono ?_
    rintro ⟨w, h2⟩ ⟨x2, k⟩
    rw [if_pos rfl] at k
    obtain ⟨b, e, hb, hb2, hg2⟩ := k
    simp only at e hb2 hg2
    subst e
    simp (maxSteps := 1000000) (disch := first | decide | omega | (simp only [go_sem]; first | done | omega)) only [go_sem, Int.reduceToNat, Nat.reduceMul, Nat.reduceAdd, Nat.reduceSub, ↓EU_region, ↓EU_draw, if_true]
    exact ⟨xh.trans x2, b, v, rfl, ⟨hb2, hg2, ov.ext x2⟩, Nat.le_trans xh.le hb, fv.mono (by rw [next_push]; omega)⟩
theorem strideNew_ev (base : Int) (h : Heap) :
    WPo (EF Tryz.prog O0 56 [.int .i64 base] h) fun q => Ext h q.2 ∧ if bgood base then ∃ b, q.1 = .tuple ⟨[ptr b 0, .int .i64 0]⟩ ∧ LQ q.2 b noS base (-1) [] ∧ h.next ≤ b else q.1 = .tuple ⟨[nilP, .int .i64 1]⟩ := by
  rw [EF_body (O := O0) (by kernel_rfl) Tryz.func56 rfl (rs := [.tmp 2, .tmp 3]) rfl (bad := []) (by kernel_rfl) _ _ (m := 11) rfl]
  simp (maxSteps := 1000000) (disch := first | decide | omega | (simp only [go_sem]; first | done | omega)) only [go_sem, Int.reduceToNat, Nat.reduceMul, Nat.reduceAdd, Nat.reduceSub, ↓EU_region, ↓EU_draw]
  repeat refine WPo_ob ?_
  refine (newLine_ev base h).bind fun h1 x1 => ?_
  cases hg : bgood base with
  | false =>
    simp (maxSteps := 1000000) (disch := first | decide | omega | (simp only [go_sem]; first | done | omega)) only [go_sem, Int.reduceToNat, Nat.reduceMul, Nat.reduceAdd, Nat.reduceSub, ↓EU_region, ↓EU_draw, if_false, Bool.false_eq_true]
    repeat refine WPo_ob ?_
    refine (strideOf_ev noS 1 0 0 h1).mono ?_
    rintro ⟨w, h2⟩ ⟨x2, k⟩
    rw [if_neg (by decide)] at k
    simp only at k
    subst k
    simp (maxSteps := 1000000) (disch := first | decide | omega | (simp only [go_sem]; first | done | omega)) only [go_sem, Int.reduceToNat, Nat.reduceMul, Nat.reduceAdd, Nat.reduceSub, ↓EU_region, ↓EU_draw, if_false, Bool.false_eq_true]
    exact ⟨x1.trans x2, trivial⟩
  | true =>
    simp (maxSteps := 1000000) (disch := first | decide | omega | (simp only [go_sem]; first | done | omega)) only [go_sem, Int.reduceToNat, Nat.reduceMul, Nat.reduceAdd, Nat.reduceSub, ↓EU_region, ↓EU_draw, if_true]
    repeat refine WPo_ob ?_
    refine (strideOf_ev noS 0 base (-1) h1).mono ?_
    rintro ⟨w, h2⟩ ⟨x2, k⟩
    rw [if_pos rfl] at k
    obtain ⟨b, e, hb, hb2, hg2⟩ := k
    simp only at e hb2 hg2
    subst e
    simp (maxSteps := 1000000) (disch := first | decide | omega | (simp only [go_sem]; first | done | omega)) only [go_sem, Int.reduceToNat, Nat.reduceMul, Nat.reduceAdd, Nat.reduceSub, ↓EU_region, ↓EU_draw, if_true]
    exact ⟨x1.trans x2, b, rfl, ⟨hb2, hg2, .nil⟩, Nat.le_trans x1.le hb⟩
theorem strideForm_ev (base cur : Int) (l : List Pnt) (v : Value) (b : Nat) (h : Heap) (q : LQ h b v base cur l) (hl : l.length < 900000) (hw : Near base l) :
    WPo (EF Tryz.prog O0 123 [ptr b 0] h) fun q => ∃ v, q.1 = formV cur v ∧ OW itemE 3 q.2 v (l.map (itP base)) ∧ Fresh h.next v ∧ Ext h q.2 := by
  have hF := lform_ev base cur l v b (h.push (.cells [.int .i64 0, .slice none 0 1] 0)) (by rw [next_push]; exact Nat.lt_succ_of_lt q.lt) (by rw [get_push_old _ q.lt]; exact q.gb) (q.ow.ext ((Ext.refl h).push _)).sl hl hw
  have hb := q.lt
  rw [EF_body (O := O0) (by kernel_rfl) Tryz.func123 rfl (rs := [.cell 2 24]) rfl (bad := []) (by kernel_rfl) _ _ (m := 7) rfl]
  simp (maxSteps := 1000000) (disch := first | decide | omega | (simp only [go_sem]; first | done | omega)) only [go_sem, Int.reduceToNat, Nat.reduceMul, Nat.reduceAdd, Nat.reduceSub, ↓EU_region, ↓EU_draw]
  repeat refine WPo_ob ?_
  refine hF.mono ?_
  rintro ⟨w, h1⟩ ⟨u, e, ou, fu, x1⟩
  simp only at e ou x1
  subst e
  unfold formV
  have hn1 := x1.le
  rw [next_push] at hn1
  have hc1 : h1.get h.next = .cells [.int .i64 0, .slice none 0 1] 0 := by rw [x1.old _ (by rw [next_push]; omega)]; exact get_push_new _ _
  obtain ⟨au, ku, hu⟩ := ou.val
  subst hu
  simp (maxSteps := 1000000) (disch := first | decide | omega | (simp only [go_sem]; first | done | omega)) only [go_sem, Int.reduceToNat, Nat.reduceMul, Nat.reduceAdd, Nat.reduceSub, ↓EU_region, ↓EU_draw, hc1]
  refine ⟨_, rfl, ou.mod (Mod.set (S := fun j => j = h.next) (Mod.refl _ _) _ _ (fun _ => rfl)) (fun j hj q => by have := fu j hj; rw [next_push] at this; omega), fu.mono (by rw [next_push]; omega), (((Ext.refl h).push _).trans x1).set _ _ (by omega)⟩
theorem strideFormI_ev (base cur : Int) (l : List Pnt) (v : Value) (b : Nat) (h : Heap) (q : LQ h b v base cur l) (hl : l.length < 900000) (hw : Near base l) :
    WPo (INV Tryz.prog O0 h [] "Form" (.iface 109 (ptr b 0))) fun q => ∃ v, q.1 = formV cur v ∧ OW itemE 3 q.2 v (l.map (itP base)) ∧ Fresh h.next v ∧ Ext h q.2 := by
  have hm : methV Tryz.prog h 20 109 (ptr b 0) "Form" = some (123, ptr b 0) := by kernel_rfl
  rw [INV_ev hm]
  exact strideForm_ev base cur l v b h q hl hw
theorem fairOf_ev (s : Value) (e : Int) (base cur : Int) (h : Heap) : WPo (EF Tryz.prog O0 72 [lineV base cur s, .int .i64 e] h) fun q => Ext h q.2 ∧ if e = 0 then ∃ b, q.1 = .tuple ⟨[ptr b 0, .int .i64 0]⟩ ∧ h.next ≤ b ∧ b < q.2.next ∧ q.2.get b = .cells [.int .i64 base, .int .i64 cur, s] 0 else q.1 = .tuple ⟨[nilP, .int .i64 e]⟩ := by
  unfold lineV
  rw [EF_body (O := O0) (by kernel_rfl) Tryz.func72 rfl (rs := [.tmp 4, .tmp 5]) rfl (bad := []) (by kernel_rfl) _ _ (m := 12) rfl]
  simp (maxSteps := 1000000) (disch := first | decide | omega | (simp only [go_sem]; first | done | omega)) only [go_sem, Int.reduceToNat, Nat.reduceMul, Nat.reduceAdd, Nat.reduceSub, ↓EU_region, ↓EU_draw]
  ((repeat refine WPo_ob ?_); (first | refine WPo_cond (fun b1 => ?_) (fun b1 => ?_) | refine WPo_gard (fun b1 => ?_) (fun b1 => ?_) | refine WPo_gardT (fun b1 => ?_) (fun b1 => ?_)) <;> (try simp only [Bool.not_eq_true', Bool.not_eq_false'] at b1))
  · simp only [decide_eq_false_iff_not] at b1
    simp (maxSteps := 1000000) (disch := first | decide | omega | (simp only [go_sem]; first | done | omega)) only [go_sem, Int.reduceToNat, Nat.reduceMul, Nat.reduceAdd, Nat.reduceSub, ↓EU_region, ↓EU_draw, if_neg b1]
    exact ⟨by repeat (first | exact Ext.refl _ | assumption | refine Ext.push ?_ _ | refine Ext.set ?_ _ _ (by first | omega | (simp only [next_push, next_set]; omega))), rfl⟩
  · simp only [decide_eq_true_eq] at b1
    simp (maxSteps := 1000000) (disch := first | decide | omega | (simp only [go_sem]; first | done | omega)) only [go_sem, Int.reduceToNat, Nat.reduceMul, Nat.reduceAdd, Nat.reduceSub, ↓EU_region, ↓EU_draw, if_pos b1]
    exact ⟨by repeat (first | exact Ext.refl _ | assumption | refine Ext.push ?_ _ | refine Ext.set ?_ _ _ (by first | omega | (simp only [next_push, next_set]; omega))), _, rfl, Nat.le_succ _, Nat.lt_succ_self _, by simp (maxSteps := 1000000) (disch := first | decide | omega | (simp only [go_sem]; first | done | omega)) only [go_sem, Int.reduceToNat, Nat.reduceMul, Nat.reduceAdd, Nat.reduceSub, ↓EU_region, ↓EU_draw]⟩
theorem fairSeed_ev (base cur : Int) (l : List Item) (s : Value) (h : Heap) (hs : SL itemE 3 h s l) (hl : l.length < 900000) :
    WPo (EF Tryz.prog O0 68 [formV cur s, .int .i64 base] h) fun q => Ext h q.2 ∧ if bgood base && goodF cur l then ∃ b v, q.1 = .tuple ⟨[ptr b 0, .int .i64 0]⟩ ∧ LQ q.2 b v base cur (l.map (ptI base)) ∧ h.next ≤ b ∧ Fresh h.next v else q.1 = .tuple ⟨[nilP, .int .i64 1]⟩ := by
  have hS := seedLine_ev base cur l s (h.push (.cells [.int .i64 cur, s] 0)) (hs.ext ((Ext.refl h).push _)) hl
  unfold formV at *
  rw [EF_body (O := O0) (by kernel_rfl) Tryz.func68 rfl (rs := [.tmp 4, .tmp 5]) rfl (bad := []) (by kernel_rfl) _ _ (m := 14) rfl]
  simp (maxSteps := 1000000) (disch := first | decide | omega | (simp only [go_sem]; first | done | omega)) only [go_sem, Int.reduceToNat, Nat.reduceMul, Nat.reduceAdd, Nat.reduceSub, ↓EU_region, ↓EU_draw]
  repeat refine WPo_ob ?_
  refine hS.mono ?_
  rintro ⟨w, h1⟩ ⟨x1, k⟩
  have xh : Ext h h1 := ((Ext.refl h).push _).trans x1
  cases hg : (bgood base && goodF cur l) with
  | false =>
    rw [hg, if_neg (by decide)] at k
    simp only at k
    subst k
    simp (maxSteps := 1000000) (disch := first | decide | omega | (simp only [go_sem]; first | done | omega)) only [go_sem, Int.reduceToNat, Nat.reduceMul, Nat.reduceAdd, Nat.reduceSub, ↓EU_region, ↓EU_draw]
    repeat refine WPo_ob ?_
    refine (fairOf_ev noS 1 0 0 h1).mono ?_
    rintro ⟨w, h2⟩ ⟨x2, k⟩
    rw [if_neg (by decide)] at k
    simp only at k
    subst k
    simp (maxSteps := 1000000) (disch := first | decide | omega | (simp only [go_sem]; first | done | omega)) only [go_sem, Int.reduceToNat, Nat.reduceMul, Nat.reduceAdd, Nat.reduceSub, ↓EU_region, ↓EU_draw, if_false, Bool.false_eq_true]
    exact ⟨xh.trans x2, trivial⟩
  | true =>
    rw [hg, if_pos rfl] at k
    obtain ⟨v, e, ov, fv⟩ := k
    simp only at e ov
    subst e
    simp (maxSteps := 1000000) (disch := first | decide | omega | (simp only [go_sem]; first | done | omega)) only [go_sem, Int.reduceToNat, Nat.reduceMul, Nat.reduceAdd, Nat.reduceSub, ↓EU_region, ↓EU_draw]
    repeat refine WPo_ob ?_
    refine (fairOf_ev v 0 base cur h1).mono ?_
    rintro ⟨w, h2⟩ ⟨x2, k⟩
    rw [if_pos rfl] at k
    obtain ⟨b, e, hb, hb2, hg2⟩ := k
    simp only at e hb2 hg2
    subst e
    simp (maxSteps := 1000000) (disch := first | decide | omega | (simp only [go_sem]; first | done | omega)) only [go_sem, Int.reduceToNat, Nat.reduceMul, Nat.reduceAdd, Nat.reduceSub, ↓EU_region, ↓EU_draw, if_true]
    exact ⟨xh.trans x2, b, v, rfl, ⟨hb2, hg2, ov.ext x2⟩, Nat.le_trans xh.le hb, fv.mono (by rw [next_push]; omega)⟩
theorem fairNew_ev (base : Int) (h : Heap) :
    WPo (EF Tryz.prog O0 58 [.int .i64 base] h) fun q => Ext h q.2 ∧ if bgood base then ∃ b, q.1 = .tuple ⟨[ptr b 0, .int .i64 0]⟩ ∧ LQ q.2 b noS base (-1) [] ∧ h.next ≤ b else q.1 = .tuple ⟨[nilP, .int .i64 1]⟩ := by
  rw [EF_body (O := O0) (by kernel_rfl) Tryz.func58 rfl (rs := [.tmp 2, .tmp 3]) rfl (bad := []) (by kernel_rfl) _ _ (m := 11) rfl]
  simp (maxSteps := 1000000) (disch := first | decide | omega | (simp only [go_sem]; first | done | omega)) only [go_sem, Int.reduceToNat, Nat.reduceMul, Nat.reduceAdd, Nat.reduceSub, ↓EU_region, ↓EU_draw]
  repeat refine WPo_ob ?_
  refine (newLine_ev base h).bind fun h1 x1 => ?_
  cases hg : bgood base with
  | false =>
    simp (maxSteps := 1000000) (disch := first | decide | omega | (simp only [go_sem]; first | done | omega)) only [go_sem, Int.reduceToNat, Nat.reduceMul, Nat.reduceAdd, Nat.reduceSub, ↓EU_region, ↓EU_draw, if_false, Bool.false_eq_true]
    repeat refine WPo_ob ?_
    refine (fairOf_ev noS 1 0 0 h1).mono ?_
    rintro ⟨w, h2⟩ ⟨x2, k⟩
    rw [if_neg (by decide)] at k
    simp only at k
    subst k
    simp (maxSteps := 1000000) (disch := first | decide | omega | (simp only [go_sem]; first | done | omega)) only [go_sem, Int.reduceToNat, Nat.reduceMul, Nat.reduceAdd, Nat.reduceSub, ↓EU_region, ↓EU_draw, if_false, Bool.false_eq_true]
    exact ⟨x1.trans x2, trivial⟩
  | true =>
    simp (maxSteps := 1000000) (disch := first | decide | omega | (simp only [go_sem]; first | done | omega)) only [go_sem, Int.reduceToNat, Nat.reduceMul, Nat.reduceAdd, Nat.reduceSub, ↓EU_region, ↓EU_draw, if_true]
    repeat refine WPo_ob ?_
    refine (fairOf_ev noS 0 base (-1) h1).mono ?_
    rintro ⟨w, h2⟩ ⟨x2, k⟩
    rw [if_pos rfl] at k
    obtain ⟨b, e, hb, hb2, hg2⟩ := k
    simp only at e hb2 hg2
    subst e
    simp (maxSteps := 1000000) (disch := first | decide | omega | (simp only [go_sem]; first | done | omega)) only [go_sem, Int.reduceToNat, Nat.reduceMul, Nat.reduceAdd, Nat.reduceSub, ↓EU_region, ↓EU_draw, if_true]
    exact ⟨x1.trans x2, b, rfl, ⟨hb2, hg2, .nil⟩, Nat.le_trans x1.le hb⟩
theorem fairForm_ev (base cur : Int) (l : List Pnt) (v : Value) (b : Nat) (h : Heap) (q : LQ h b v base cur l) (hl : l.length < 900000) (hw : Near base l) :
    WPo (EF Tryz.prog O0 143 [ptr b 0] h) fun q => ∃ v, q.1 = formV cur v ∧ OW itemE 3 q.2 v (l.map (itP base)) ∧ Fresh h.next v ∧ Ext h q.2 := by
  have hF := lform_ev base cur l v b (h.push (.cells [.int .i64 0, .slice none 0 1] 0)) (by rw [next_push]; exact Nat.lt_succ_of_lt q.lt) (by rw [get_push_old _ q.lt]; exact q.gb) (q.ow.ext ((Ext.refl h).push _)).sl hl hw
  have hb := q.lt
  rw [EF_body (O := O0) (by kernel_rfl) Tryz.func143 rfl (rs := [.cell 2 24]) rfl (bad := []) (by kernel_rfl) _ _ (m := 7) rfl]
  simp (maxSteps := 1000000) (disch := first | decide | omega | (simp only [go_sem]; first | done | omega)) only [go_sem, Int.reduceToNat, Nat.reduceMul, Nat.reduceAdd, Nat.reduceSub, ↓EU_region, ↓EU_draw]
  repeat refine WPo_ob ?_
  refine hF.mono ?_
  rintro ⟨w, h1⟩ ⟨u, e, ou, fu, x1⟩
  simp only at e ou x1
  subst e
  unfold formV
  have hn1 := x1.le
  rw [next_push] at hn1
  have hc1 : h1.get h.next = .cells [.int .i64 0, .slice none 0 1] 0 := by rw [x1.old _ (by rw [next_push]; omega)]; exact get_push_new _ _
  obtain ⟨au, ku, hu⟩ := ou.val
  subst hu
  simp (maxSteps := 1000000) (disch := first | decide | omega | (simp only [go_sem]; first | done | omega)) only [go_sem, Int.reduceToNat, Nat.reduceMul, Nat.reduceAdd, Nat.reduceSub, ↓EU_region, ↓EU_draw, hc1]
  refine ⟨_, rfl, ou.mod (Mod.set (S := fun j => j = h.next) (Mod.refl _ _) _ _ (fun _ => rfl)) (fun j hj q => by have := fu j hj; rw [next_push] at this; omega), fu.mono (by rw [next_push]; omega), (((Ext.refl h).push _).trans x1).set _ _ (by omega)⟩
theorem fairFormI_ev (base cur : Int) (l : List Pnt) (v : Value) (b : Nat) (h : Heap) (q : LQ h b v base cur l) (hl : l.length < 900000) (hw : Near base l) :
    WPo (INV Tryz.prog O0 h [] "Form" (.iface 113 (ptr b 0))) fun q => ∃ v, q.1 = formV cur v ∧ OW itemE 3 q.2 v (l.map (itP base)) ∧ Fresh h.next v ∧ Ext h q.2 := by
  have hm : methV Tryz.prog h 20 113 (ptr b 0) "Form" = some (143, ptr b 0) := by kernel_rfl
  rw [INV_ev hm]
  exact fairForm_ev base cur l v b h q hl hw
theorem dueOf_ev (s : Value) (e : Int) (base cur : Int) (h : Heap) : WPo (EF Tryz.prog O0 73 [lineV base cur s, .int .i64 e] h) fun q => Ext h q.2 ∧ if e = 0 then ∃ b, q.1 = .tuple ⟨[ptr b 0, .int .i64 0]⟩ ∧ h.next ≤ b ∧ b < q.2.next ∧ q.2.get b = .cells [.int .i64 base, .int .i64 cur, s] 0 else q.1 = .tuple ⟨[nilP, .int .i64 e]⟩ := by
  unfold lineV
  rw [EF_body (O := O0) (by kernel_rfl) Tryz.func73 rfl (rs := [.tmp 4, .tmp 5]) rfl (bad := []) (by kernel_rfl) _ _ (m := 12) rfl]
  simp (maxSteps := 1000000) (disch := first | decide | omega | (simp only [go_sem]; first | done | omega)) only [go_sem, Int.reduceToNat, Nat.reduceMul, Nat.reduceAdd, Nat.reduceSub, ↓EU_region, ↓EU_draw]
  ((repeat refine WPo_ob ?_); (first | refine WPo_cond (fun b1 => ?_) (fun b1 => ?_) | refine WPo_gard (fun b1 => ?_) (fun b1 => ?_) | refine WPo_gardT (fun b1 => ?_) (fun b1 => ?_)) <;> (try simp only [Bool.not_eq_true', Bool.not_eq_false'] at b1))
  · simp only [decide_eq_false_iff_not] at b1
    simp (maxSteps := 1000000) (disch := first | decide | omega | (simp only [go_sem]; first | done | omega)) only [go_sem, Int.reduceToNat, Nat.reduceMul, Nat.reduceAdd, Nat.reduceSub, ↓EU_region, ↓EU_draw, if_neg b1]
    exact ⟨by repeat (first | exact Ext.refl _ | assumption | refine Ext.push ?_ _ | refine Ext.set ?_ _ _ (by first | omega | (simp only [next_push, next_set]; omega))), rfl⟩
  · simp only [decide_eq_true_eq] at b1
    simp (maxSteps := 1000000) (disch := first | decide | omega | (simp only [go_sem]; first | done | omega)) only [go_sem, Int.reduceToNat, Nat.reduceMul, Nat.reduceAdd, Nat.reduceSub, ↓EU_region, ↓EU_draw, if_pos b1]
    exact ⟨by repeat (first | exact Ext.refl _ | assumption | refine Ext.push ?_ _ | refine Ext.set ?_ _ _ (by first | omega | (simp only [next_push, next_set]; omega))), _, rfl, Nat.le_succ _, Nat.lt_succ_self _, by simp (maxSteps := 1000000) (disch := first | decide | omega | (simp only [go_sem]; first | done | omega)) only [go_sem, Int.reduceToNat, Nat.reduceMul, Nat.reduceAdd, Nat.reduceSub, ↓EU_region, ↓EU_draw]⟩
theorem dueSeed_ev (base cur : Int) (l : List Item) (s : Value) (h : Heap) (hs : SL itemE 3 h s l) (hl : l.length < 900000) :
    WPo (EF Tryz.prog O0 69 [formV cur s, .int .i64 base] h) fun q => Ext h q.2 ∧ if bgood base && goodF cur l then ∃ b v, q.1 = .tuple ⟨[ptr b 0, .int .i64 0]⟩ ∧ LQ q.2 b v base cur (l.map (ptI base)) ∧ h.next ≤ b ∧ Fresh h.next v else q.1 = .tuple ⟨[nilP, .int .i64 1]⟩ := by
  have hS := seedLine_ev base cur l s (h.push (.cells [.int .i64 cur, s] 0)) (hs.ext ((Ext.refl h).push _)) hl
  unfold formV at *
  rw [EF_body (O := O0) (by kernel_rfl) Tryz.func69 rfl (rs := [.tmp 4, .tmp 5]) rfl (bad := []) (by kernel_rfl) _ _ (m := 14) rfl]
  simp (maxSteps := 1000000) (disch := first | decide | omega | (simp only [go_sem]; first | done | omega)) only [go_sem, Int.reduceToNat, Nat.reduceMul, Nat.reduceAdd, Nat.reduceSub, ↓EU_region, ↓EU_draw]
  repeat refine WPo_ob ?_
  refine hS.mono ?_
  rintro ⟨w, h1⟩ ⟨x1, k⟩
  have xh : Ext h h1 := ((Ext.refl h).push _).trans x1
  cases hg : (bgood base && goodF cur l) with
  | false =>
    rw [hg, if_neg (by decide)] at k
    simp only at k
    subst k
    simp (maxSteps := 1000000) (disch := first | decide | omega | (simp only [go_sem]; first | done | omega)) only [go_sem, Int.reduceToNat, Nat.reduceMul, Nat.reduceAdd, Nat.reduceSub, ↓EU_region, ↓EU_draw]
    repeat refine WPo_ob ?_
    refine (dueOf_ev noS 1 0 0 h1).mono ?_
    rintro ⟨w, h2⟩ ⟨x2, k⟩
    rw [if_neg (by decide)] at k
    simp only at k
    subst k
    simp (maxSteps := 1000000) (disch := first | decide | omega | (simp only [go_sem]; first | done | omega)) only [go_sem, Int.reduceToNat, Nat.reduceMul, Nat.reduceAdd, Nat.reduceSub, ↓EU_region, ↓EU_draw, if_false, Bool.false_eq_true]
    exact ⟨xh.trans x2, trivial⟩
  | true =>
    rw [hg, if_pos rfl] at k
    obtain ⟨v, e, ov, fv⟩ := k
    simp only at e ov
    subst e
    simp (maxSteps := 1000000) (disch := first | decide | omega | (simp only [go_sem]; first | done | omega)) only [go_sem, Int.reduceToNat, Nat.reduceMul, Nat.reduceAdd, Nat.reduceSub, ↓EU_region, ↓EU_draw]
    repeat refine WPo_ob ?_
    refine (dueOf_ev v 0 base cur h1).mono ?_
    rintro ⟨w, h2⟩ ⟨x2, k⟩
    rw [if_pos rfl] at k
    obtain ⟨b, e, hb, hb2, hg2⟩ := k
    simp only at e hb2 hg2
    subst e
    simp (maxSteps := 1000000) (disch := first | decide | omega | (simp only [go_sem]; first | done | omega)) only [go_sem, Int.reduceToNat, Nat.reduceMul, Nat.reduceAdd, Nat.reduceSub, ↓EU_region, ↓EU_draw, if_true]
    exact ⟨xh.trans x2, b, v, rfl, ⟨hb2, hg2, ov.ext x2⟩, Nat.le_trans xh.le hb, fv.mono (by rw [next_push]; omega)⟩
theorem dueNew_ev (base : Int) (h : Heap) :
    WPo (EF Tryz.prog O0 59 [.int .i64 base] h) fun q => Ext h q.2 ∧ if bgood base then ∃ b, q.1 = .tuple ⟨[ptr b 0, .int .i64 0]⟩ ∧ LQ q.2 b noS base (-1) [] ∧ h.next ≤ b else q.1 = .tuple ⟨[nilP, .int .i64 1]⟩ := by
  rw [EF_body (O := O0) (by kernel_rfl) Tryz.func59 rfl (rs := [.tmp 2, .tmp 3]) rfl (bad := []) (by kernel_rfl) _ _ (m := 11) rfl]
  simp (maxSteps := 1000000) (disch := first | decide | omega | (simp only [go_sem]; first | done | omega)) only [go_sem, Int.reduceToNat, Nat.reduceMul, Nat.reduceAdd, Nat.reduceSub, ↓EU_region, ↓EU_draw]
  repeat refine WPo_ob ?_
  refine (newLine_ev base h).bind fun h1 x1 => ?_
  cases hg : bgood base with
  | false =>
    simp (maxSteps := 1000000) (disch := first | decide | omega | (simp only [go_sem]; first | done | omega)) only [go_sem, Int.reduceToNat, Nat.reduceMul, Nat.reduceAdd, Nat.reduceSub, ↓EU_region, ↓EU_draw, if_false, Bool.false_eq_true]
    repeat refine WPo_ob ?_
    refine (dueOf_ev noS 1 0 0 h1).mono ?_
    rintro ⟨w, h2⟩ ⟨x2, k⟩
    rw [if_neg (by decide)] at k
    simp only at k
    subst k
    simp (maxSteps := 1000000) (disch := first | decide | omega | (simp only [go_sem]; first | done | omega)) only [go_sem, Int.reduceToNat, Nat.reduceMul, Nat.reduceAdd, Nat.reduceSub, ↓EU_region, ↓EU_draw, if_false, Bool.false_eq_true]
    exact ⟨x1.trans x2, trivial⟩
  | true =>
    simp (maxSteps := 1000000) (disch := first | decide | omega | (simp only [go_sem]; first | done | omega)) only [go_sem, Int.reduceToNat, Nat.reduceMul, Nat.reduceAdd, Nat.reduceSub, ↓EU_region, ↓EU_draw, if_true]
    repeat refine WPo_ob ?_
    refine (dueOf_ev noS 0 base (-1) h1).mono ?_
    rintro ⟨w, h2⟩ ⟨x2, k⟩
    rw [if_pos rfl] at k
    obtain ⟨b, e, hb, hb2, hg2⟩ := k
    simp only at e hb2 hg2
    subst e
    simp (maxSteps := 1000000) (disch := first | decide | omega | (simp only [go_sem]; first | done | omega)) only [go_sem, Int.reduceToNat, Nat.reduceMul, Nat.reduceAdd, Nat.reduceSub, ↓EU_region, ↓EU_draw, if_true]
    exact ⟨x1.trans x2, b, rfl, ⟨hb2, hg2, .nil⟩, Nat.le_trans x1.le hb⟩
theorem dueForm_ev (base cur : Int) (l : List Pnt) (v : Value) (b : Nat) (h : Heap) (q : LQ h b v base cur l) (hl : l.length < 900000) (hw : Near base l) :
    WPo (EF Tryz.prog O0 152 [ptr b 0] h) fun q => ∃ v, q.1 = formV cur v ∧ OW itemE 3 q.2 v (l.map (itP base)) ∧ Fresh h.next v ∧ Ext h q.2 := by
  have hF := lform_ev base cur l v b (h.push (.cells [.int .i64 0, .slice none 0 1] 0)) (by rw [next_push]; exact Nat.lt_succ_of_lt q.lt) (by rw [get_push_old _ q.lt]; exact q.gb) (q.ow.ext ((Ext.refl h).push _)).sl hl hw
  have hb := q.lt
  rw [EF_body (O := O0) (by kernel_rfl) Tryz.func152 rfl (rs := [.cell 2 24]) rfl (bad := []) (by kernel_rfl) _ _ (m := 7) rfl]
  simp (maxSteps := 1000000) (disch := first | decide | omega | (simp only [go_sem]; first | done | omega)) only [go_sem, Int.reduceToNat, Nat.reduceMul, Nat.reduceAdd, Nat.reduceSub, ↓EU_region, ↓EU_draw]
  repeat refine WPo_ob ?_
  refine hF.mono ?_
  rintro ⟨w, h1⟩ ⟨u, e, ou, fu, x1⟩
  simp only at e ou x1
  subst e
  unfold formV
  have hn1 := x1.le
  rw [next_push] at hn1
  have hc1 : h1.get h.next = .cells [.int .i64 0, .slice none 0 1] 0 := by rw [x1.old _ (by rw [next_push]; omega)]; exact get_push_new _ _
  obtain ⟨au, ku, hu⟩ := ou.val
  subst hu
  simp (maxSteps := 1000000) (disch := first | decide | omega | (simp only [go_sem]; first | done | omega)) only [go_sem, Int.reduceToNat, Nat.reduceMul, Nat.reduceAdd, Nat.reduceSub, ↓EU_region, ↓EU_draw, hc1]
  refine ⟨_, rfl, ou.mod (Mod.set (S := fun j => j = h.next) (Mod.refl _ _) _ _ (fun _ => rfl)) (fun j hj q => by have := fu j hj; rw [next_push] at this; omega), fu.mono (by rw [next_push]; omega), (((Ext.refl h).push _).trans x1).set _ _ (by omega)⟩
theorem dueFormI_ev (base cur : Int) (l : List Pnt) (v : Value) (b : Nat) (h : Heap) (q : LQ h b v base cur l) (hl : l.length < 900000) (hw : Near base l) :
    WPo (INV Tryz.prog O0 h [] "Form" (.iface 116 (ptr b 0))) fun q => ∃ v, q.1 = formV cur v ∧ OW itemE 3 q.2 v (l.map (itP base)) ∧ Fresh h.next v ∧ Ext h q.2 := by
  have hm : methV Tryz.prog h 20 116 (ptr b 0) "Form" = some (152, ptr b 0) := by kernel_rfl
  rw [INV_ev hm]
  exact dueForm_ev base cur l v b h q hl hw
/-- the type behind a tag -/
noncomputable def tagT (tag : Int) : TypeId := if tag = 0 then 109 else if tag = 1 then 113 else 116
noncomputable def tgood (tag : Int) : Bool := decide (0 ≤ tag) && decide (tag ≤ 2)
theorem tgood_c {tag : Int} (h : tgood tag = true) : tag = 0 ∨ tag = 1 ∨ tag = 2 := by
  unfold tgood at h
  simp only [Bool.and_eq_true, decide_eq_true_eq] at h
  omega
theorem tgood_f {tag : Int} (h : tgood tag = false) : tag ≠ 0 ∧ tag ≠ 1 ∧ tag ≠ 2 := by
  unfold tgood at h
  simp only [Bool.and_eq_false_iff, decide_eq_false_iff_not] at h
  omega
theorem formI_ev (tag base cur : Int) (l : List Pnt) (v : Value) (b : Nat) (h : Heap) (ht : tgood tag = true) (q : LQ h b v base cur l) (hl : l.length < 900000) (hw : Near base l) :
    WPo (INV Tryz.prog O0 h [] "Form" (.iface (tagT tag) (ptr b 0))) fun q => ∃ v, q.1 = formV cur v ∧ OW itemE 3 q.2 v (l.map (itP base)) ∧ Fresh h.next v ∧ Ext h q.2 := by
  rcases tgood_c ht with rfl | rfl | rfl
  · exact strideFormI_ev base cur l v b h q hl hw
  · exact fairFormI_ev base cur l v b h q hl hw
  · exact dueFormI_ev base cur l v b h q hl hw
/-- a queue of one of the three -/
structure PQ (h : Heap) (b lb : Nat) (v : Value) (tag base cur : Int) (l : List Pnt) : Prop where
  tg : tgood tag = true
  lt : b < h.next
  gb : h.get b = .cells [.iface (tagT tag) (ptr lb 0), .int .i64 tag] 0
  lq : LQ h lb v base cur l
theorem PQ.ne {h : Heap} {b lb : Nat} {v : Value} {tag base cur : Int} {l : List Pnt} (q : PQ h b lb v tag base cur l) : b ≠ lb := fun e => by
  have h1 := q.gb
  have h2 := q.lq.gb
  rw [e, h2] at h1
  cases h1
theorem PQ.ne1 {h : Heap} {b lb : Nat} {v : Value} {tag base cur : Int} {l : List Pnt} (q : PQ h b lb v tag base cur l) : ¬ blkOf v b := ow_ne q.lq.ow q.gb (by decide)
theorem PQ.ne2 {h : Heap} {b lb : Nat} {v : Value} {tag base cur : Int} {l : List Pnt} (q : PQ h b lb v tag base cur l) : ¬ blkOf v lb := ow_ne q.lq.ow q.lq.gb (by decide)
theorem PQ.ext {h h' : Heap} {b lb : Nat} {v : Value} {tag base cur : Int} {l : List Pnt} (q : PQ h b lb v tag base cur l) (x : Ext h h') : PQ h' b lb v tag base cur l := ⟨q.tg, Nat.lt_of_lt_of_le q.lt x.le, (x.old b q.lt).trans q.gb, q.lq.ext x⟩
theorem PQ.mod {S : Nat → Prop} {h h' : Heap} {b lb : Nat} {v : Value} {tag base cur : Int} {l : List Pnt} (q : PQ h b lb v tag base cur l) (x : Mod S h h') (h1 : ¬ S b) (h2 : ¬ S lb) (h3 : ∀ i, blkOf v i → ¬ S i) : PQ h' b lb v tag base cur l := ⟨q.tg, Nat.lt_of_lt_of_le q.lt x.le, (x.old b q.lt h1).trans q.gb, q.lq.mod x h2 h3⟩
end Go.Proofs.YtddgcakiceodgaaGreat.EV
