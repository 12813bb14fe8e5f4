/- ElderTags, plainly. No condition. -/
import Derived.Test.YtlandojofjkeaaaElder3
import Derived.Test.YtlandojofjkeaaaRowItem
import Derived.Test.YtlandojofjkeaaaBytes
namespace Go.Proofs.Ytlandojofjkeaaa.EV
open Go Go.Proofs
set_option linter.unusedVariables false
set_option linter.unusedSimpArgs false
set_option maxRecDepth 100000
set_option pp.deepTerms false
set_option pp.deepTerms.threshold 20
theorem readR_enc {tag cur : Int} {l : List Item} (h : cgood tag cur l = true) : readR (sealN (encF tag cur l)) = (3, tag, cur, l, 0) := by
  have hv : versionN (encF tag cur l) = some 3 := rfl
  have h3 : 3 ≤ (encF tag cur l).length := by rw [encF_len]; omega
  have e1 : readR (sealN (encF tag cur l)) = (3, bodyV 3 (encF tag cur l)) := by
    unfold readR
    rw [openN_seal]
    dsimp only
    rw [hv]; rfl
  have e2 : openR (sealN (encF tag cur l)) = ((encF tag cur l).drop 3, 3, 0) := by
    unfold openR
    rw [openN_seal]
    dsimp only
    rw [hv]
  have e3 := getR_enc h
  unfold getR at e3
  rw [e2, if_neg (by simp), if_neg (by simp)] at e3
  rw [e1, bodyV_3 h3]
  rw [show bodyR ((encF tag cur l).drop 3) = (tag, cur, l, 0) from e3]
theorem readR_up {l : List UInt8} (h : (readR l).2.2.2.2 = 0) : (readR (upR l).1).2 = (readR l).2 := by
  unfold upR
  rw [if_neg (by omega)]
  by_cases h3 : (readR l).1 = 3
  · rw [if_pos h3]
  · rw [if_neg h3]
    dsimp only
    rw [readR_enc (readR_good h), ← h]
theorem law_ElderTags (h : Heap) (sb : Value) (zb : List Int) (hb0 : SL (intE .u8) 1 h sb zb) (wb : ∀ z ∈ zb, (Lit.int .u8 z).wf = true) :
    WPo (EF Try.prog O0 3 [sb] h) fun q => q.1 = .bool true := by
  have hb := SL_bytes hb0 wb
  generalize zb.map byteZ = lb at hb
  rw [EF_body (O := O0) (by kernel_rfl) Try.func3 rfl (rs := [.tmp 2]) rfl (bad := []) (by kernel_rfl) _ _ (m := 77) rfl]
  obtain ⟨ab, kb, hv⟩ := hb.val
  subst hv
  simp (maxSteps := 1000000) (disch := first | decide | omega | (simp only [go_sem]; first | done | omega)) only [go_sem, Int.reduceToNat, Nat.reduceMul, Nat.reduceAdd, Nat.reduceSub, ↓EU_region, ↓EU_draw, awake_ev]
  ((repeat refine WPo_ob ?_); (first | refine WPo_cond (fun b1 => ?_) (fun b1 => ?_) | refine WPo_gard (fun b1 => ?_) (fun b1 => ?_) | refine WPo_gardT (fun b1 => ?_) (fun b1 => ?_)) <;> (try simp only [Bool.not_eq_true', Bool.not_eq_false'] at b1))
  · simp (maxSteps := 1000000) (disch := first | decide | omega | (simp only [go_sem]; first | done | omega)) only [go_sem, Int.reduceToNat, Nat.reduceMul, Nat.reduceAdd, Nat.reduceSub, ↓EU_region, ↓EU_draw, b1]
  · have b1' := b1
    simp only [decide_eq_false_iff_not] at b1'
    simp (maxSteps := 1000000) (disch := first | decide | omega | (simp only [go_sem]; first | done | omega)) only [go_sem, Int.reduceToNat, Nat.reduceMul, Nat.reduceAdd, Nat.reduceSub, ↓EU_region, ↓EU_draw, b1]
    repeat refine WPo_ob ?_
    refine (eread_ev lb _ h hb (by omega)).mono ?_
    rintro ⟨v1, h1⟩ ⟨i1, rfl, o1, f1, x1⟩
    simp only at o1 f1 x1
    obtain ⟨a1, c1, rfl⟩ := o1.val
    unfold formV
    simp (maxSteps := 1000000) (disch := first | decide | omega | (simp only [go_sem]; first | done | omega)) only [go_sem, Int.reduceToNat, Nat.reduceMul, Nat.reduceAdd, Nat.reduceSub, ↓EU_region, ↓EU_draw]
    repeat refine WPo_ob ?_
    have y1 : Ext h (h1.push (.cells [.int .i64 (readR lb).2.2.1, .slice a1 (readR lb).2.2.2.1.length c1] 0)) := x1.push _
    refine (up_ev lb _ _ (hb.ext y1) (by omega)).mono ?_
    rintro ⟨v2, h2⟩ ⟨u2, rfl, s2, x2⟩
    simp only at s2 x2
    have hn2 := x2.le
    rw [next_push] at hn2
    have hc4 : h2.get h1.next = .cells [.int .i64 (readR lb).2.2.1, .slice a1 (readR lb).2.2.2.1.length c1] 0 := by rw [x2.old _ (by rw [next_push]; omega)]; exact get_push_new _ _
    by_cases q : (readR lb).2.2.2.2 = 0
    · have hq := readR_up q
      have hg := readR_good q
      have hgf := (cgood_facts hg).2.2
      have hgi := good_facts hgf
      have hd : decide ((readR lb).2.2.2.2 = 0) = true := decide_eq_true q
      simp (maxSteps := 1000000) (disch := first | decide | omega | (simp only [go_sem]; first | done | omega)) only [go_sem, Int.reduceToNat, Nat.reduceMul, Nat.reduceAdd, Nat.reduceSub, ↓EU_region, ↓EU_draw, hd]
      repeat refine WPo_ob ?_
      have hul : (upR lb).1.length < 600000 := by
        unfold upR
        rw [if_neg (by omega)]
        split
        · dsimp only; omega
        · dsimp only; rw [sealN_len, encF_len]; omega
      refine (eread_ev _ u2 h2 s2 hul).mono ?_
      rintro ⟨v3, h3⟩ ⟨i3, rfl, o3, f3, x3⟩
      rw [hq] at *
      simp only at o3 f3 x3
      have hu0 : (upR lb).2 = 0 := (getR_up q).1
      have hdu : decide ((upR lb).2 = 0) = true := decide_eq_true hu0
      have hdt : decide ((readR lb).2.1 = (readR lb).2.1) = true := decide_eq_true rfl
      have o3' := o3.ext ((Ext.refl h3).push (.cells [.int .i64 (readR lb).2.2.1, i3] 0))
      have o1' := ((o1.ext ((Ext.refl h1).push (.cells [.int .i64 (readR lb).2.2.1, .slice a1 (readR lb).2.2.2.1.length c1] 0))).ext x2).ext (x3.push (.cells [.int .i64 (readR lb).2.2.1, i3] 0))
      have ps := same_ev (readR lb).2.2.1 (readR lb).2.2.1 (readR lb).2.2.2.1 (readR lb).2.2.2.1 i3 (.slice a1 (readR lb).2.2.2.1.length c1) _ o3'.sl o1'.sl (by omega)
      obtain ⟨a3, c3, rfl⟩ := o3.val
      unfold formV at ps ⊢
      have hn3 := x3.le
      have hc4' : h3.get h1.next = .cells [.int .i64 (readR lb).2.2.1, .slice a1 (readR lb).2.2.2.1.length c1] 0 := by rw [x3.old _ (by omega)]; exact hc4
      simp (maxSteps := 1000000) (disch := first | decide | omega | (simp only [go_sem]; first | done | omega)) only [go_sem, Int.reduceToNat, Nat.reduceMul, Nat.reduceAdd, Nat.reduceSub, ↓EU_region, ↓EU_draw, hdu, hdt, hd, hc4']
      repeat refine WPo_ob ?_
      refine ps.bind fun h4 x4 => ?_
      have hn4 := x4.le
      rw [next_push] at hn4
      have hc4'' : h4.get h1.next = .cells [.int .i64 (readR lb).2.2.1, .slice a1 (readR lb).2.2.2.1.length c1] 0 := by rw [x4.old _ (by rw [next_push]; omega), get_push_old _ (by omega)]; exact hc4'
      have hdc : decide ((readR lb).2.2.1 = (readR lb).2.2.1) = true := decide_eq_true rfl
      have hdl : decide ((readR lb).2.2.2.1 = (readR lb).2.2.2.1) = true := decide_eq_true rfl
      have pg := good_ev (readR lb).2.2.1 (readR lb).2.2.2.1 _ h4 (o1'.ext x4).sl (by omega)
      unfold formV at pg
      simp (maxSteps := 1000000) (disch := first | decide | omega | (simp only [go_sem]; first | done | omega)) only [go_sem, Int.reduceToNat, Nat.reduceMul, Nat.reduceAdd, Nat.reduceSub, ↓EU_region, ↓EU_draw, hdc, hdl, hc4'']
      repeat refine WPo_ob ?_
      refine pg.bind fun h5 x5 => ?_
      have ha1 : decide (0 ≤ (readR lb).2.1) = true := decide_eq_true (cgood_facts hg).1
      have ha2 : decide ((readR lb).2.1 ≤ 2) = true := decide_eq_true (cgood_facts hg).2.1
      simp (maxSteps := 1000000) (disch := first | decide | omega | (simp only [go_sem]; first | done | omega)) only [go_sem, Int.reduceToNat, Nat.reduceMul, Nat.reduceAdd, Nat.reduceSub, ↓EU_region, ↓EU_draw, hgf, ha1, ha2]
    · have hd : decide ((readR lb).2.2.2.2 = 0) = false := decide_eq_false q
      have hU := upR_err q
      obtain ⟨r1, r2, r3⟩ := readR_err q
      obtain ⟨a2, c2, rfl⟩ := s2.val
      have hde : decide ((upR lb).2 = (readR lb).2.2.2.2) = true := decide_eq_true (by rw [hU])
      have hl0 : (readR lb).2.2.2.1.length = 0 := by rw [r3]; rfl
      have hd0 : decide (((readR lb).2.2.2.1.length : Int) = 0) = true := decide_eq_true (by omega)
      have hd1 : decide (((upR lb).1.length : Int) = 0) = true := by rw [hU]; rfl
      simp (maxSteps := 1000000) (disch := first | decide | omega | (simp only [go_sem]; first | done | omega)) only [go_sem, Int.reduceToNat, Nat.reduceMul, Nat.reduceAdd, Nat.reduceSub, ↓EU_region, ↓EU_draw, dec_t, dec_f, hd, hde, hc4, hd0, hd1]
end Go.Proofs.Ytlandojofjkeaaa.EV
