/- Contracts: package seal, and the reference's seals. No condition. -/
import Derived.Test.YtddgcakiceodgaaGreatO0
namespace Go.Proofs.YtddgcakiceodgaaGreat.EV
open Go Go.Proofs
set_option linter.unusedVariables false
set_option linter.unusedSimpArgs false
set_option maxRecDepth 100000
set_option pp.deepTerms false
set_option pp.deepTerms.threshold 20

/-- one bit -/
noncomputable def stepN (c : Nat) : Nat := if c % 2 = 1 then (c >>> 1) ^^^ 2197175160 else c >>> 1
noncomputable def iterN : Nat → Nat → Nat
  | 0, c => c
  | n + 1, c => iterN n (stepN c)
noncomputable def byteN (c : Nat) (b : UInt8) : Nat := iterN 8 (c ^^^ b.toNat)
noncomputable def foldN (c : Nat) (l : List UInt8) : Nat := l.foldl byteN c
noncomputable def crcN (l : List UInt8) : Nat := 4294967295 ^^^ foldN 4294967295 l
theorem shr1_lt {c n : Nat} (h : c < n) : c >>> 1 < n := by
  rw [Nat.shiftRight_eq_div_pow]; omega
theorem xor_lt32 {a b : Nat} (h : a < 4294967296) (k : b < 4294967296) : a ^^^ b < 4294967296 := Nat.xor_lt_two_pow (n := 32) h k
theorem stepN_lt {c : Nat} (h : c < 4294967296) : stepN c < 4294967296 := by
  unfold stepN
  split
  · exact xor_lt32 (shr1_lt h) (by decide)
  · exact shr1_lt h
theorem iterN_lt : ∀ (n c : Nat), c < 4294967296 → iterN n c < 4294967296
  | 0, c, h => h
  | n + 1, c, h => iterN_lt n _ (stepN_lt h)
theorem byteN_lt {c : Nat} (b : UInt8) (h : c < 4294967296) : byteN c b < 4294967296 := iterN_lt 8 _ (xor_lt32 h (by have := b.toNat_lt; omega))
theorem foldN_lt : ∀ (l : List UInt8) (c : Nat), c < 4294967296 → foldN c l < 4294967296
  | [], c, h => h
  | b :: l, c, h => foldN_lt l _ (byteN_lt b h)
theorem crcN_lt (l : List UInt8) : crcN l < 4294967296 := xor_lt32 (by decide) (foldN_lt l _ (by decide))
theorem iterN_snoc : ∀ (n c : Nat), iterN (n + 1) c = stepN (iterN n c)
  | 0, c => rfl
  | n + 1, c => iterN_snoc n (stepN c)
/-- the bit, as the code has it -/
theorem step_code {c : Nat} (h : c < 4294967296) : ∃ m : Nat, wrapF .u32 (0 - ((c &&& 1 : Nat) : Int)) = (m : Int) ∧ m < 4294967296 ∧ (c >>> 1) ^^^ (2197175160 &&& m) = stepN c := by
  unfold stepN
  rw [Nat.and_one_is_mod]
  rcases Nat.mod_two_eq_zero_or_one c with q | q
  · rw [q, if_neg (by decide)]
    exact ⟨0, rfl, by decide, by rw [Nat.and_zero, Nat.xor_zero]⟩
  · rw [q, if_pos rfl]
    exact ⟨4294967295, rfl, by decide, rfl⟩
theorem of_ev (l : List UInt8) (s : Value) (h : Heap) (hs : SL byteE 1 h s l) (hl : l.length < 900000) :
    Pu (EF Tryz.prog O0 89 [s] h) h (.int .u32 (crcN l : Nat)) := by
  unfold Pu
  rw [EF_body (O := O0) (by kernel_rfl) Tryz.func89 rfl (rs := [.tmp 2]) rfl (bad := []) (by kernel_rfl) _ _ (m := 29) rfl]
  obtain ⟨a, c, hv⟩ := hs.val
  subst hv
  simp (maxSteps := 1000000) (disch := first | decide | omega | (simp only [go_sem]; first | done | omega)) only [go_sem, Int.reduceToNat, Nat.reduceMul, Nat.reduceAdd, Nat.reduceSub, ↓EU_region, ↓EU_draw]
  repeat refine WPo_ob ?_
  refine (LP_rule (fun m st => ∃ i tm, st = ⟨tm, h, []⟩ ∧ m = l.length - i ∧ i ≤ l.length ∧ Fr.get tm 6 = .slice a l.length c ∧ Fr.get tm 7 = .int .i64 l.length ∧ Fr.get tm 8 = .int .i64 i ∧ Fr.get tm 3 = .int .u32 (foldN 4294967295 (l.take i) : Nat))
    (fun q => ∃ tm, q.2 = ⟨tm, h, []⟩ ∧ q.1 = .exit 0 ∧ Fr.get tm 3 = .int .u32 (foldN 4294967295 l : Nat)) ?_ l.length _ _ ?_ ?_).mono ?_
  · rintro m _ ⟨i, tm, rfl, rfl, hi, g6, g7, g8, g3⟩
    simp (maxSteps := 1000000) (disch := first | decide | omega | (simp only [go_sem]; first | done | omega)) only [go_sem, Int.reduceToNat, Nat.reduceMul, Nat.reduceAdd, Nat.reduceSub, ↓EU_region, ↓EU_draw, g6, g7, g8, g3]
    ((repeat refine WPo_ob ?_); (first | refine WPo_cond (fun b1 => ?_) (fun b1 => ?_) | refine WPo_gard (fun b1 => ?_) (fun b1 => ?_) | refine WPo_gardT (fun b1 => ?_) (fun b1 => ?_)) <;> (try simp only [Bool.not_eq_true', Bool.not_eq_false'] at b1))
    · simp only [decide_eq_true_eq] at b1
      have hi' : i < l.length := by omega
      obtain ⟨x, hx⟩ : ∃ x, l[i]? = some x := ⟨_, List.getElem?_eq_getElem hi'⟩
      obtain ⟨b, o, c', e, hb', _, hr⟩ := hs.at hx rfl
      cases e
      have hr0 := hr 0 _ rfl
      rw [add_z] at hr0
      have hlt := foldN_lt (l.take i) 4294967295 (by decide)
      have hxl := x.toNat_lt
      have hcs : foldN 4294967295 (l.take (i + 1)) = byteN (foldN 4294967295 (l.take i)) x := by
        rw [List.take_add_one, hx]; unfold foldN; rw [List.foldl_append]; rfl
      simp (maxSteps := 1000000) (disch := first | decide | omega | (simp only [go_sem]; first | done | omega)) only [go_sem, Int.reduceToNat, Nat.reduceMul, Nat.reduceAdd, Nat.reduceSub, ↓EU_region, ↓EU_draw, g6, g7, g8, g3, hr0]
      repeat refine WPo_ob ?_
      refine (LP_rule (fun m st => ∃ j tm', st = ⟨tm', h, []⟩ ∧ m = 8 - j ∧ j ≤ 8 ∧ Fr.get tm' 6 = .slice (some ⟨b, o, none⟩) l.length c ∧ Fr.get tm' 7 = .int .i64 l.length ∧ Fr.get tm' 8 = .int .i64 i ∧ Fr.get tm' 16 = .int .i64 j ∧ Fr.get tm' 3 = .int .u32 (iterN j (foldN 4294967295 (l.take i) ^^^ x.toNat) : Nat))
        (fun q => ∃ tm', q.2 = ⟨tm', h, []⟩ ∧ q.1 = .exit 2 ∧ Fr.get tm' 6 = .slice (some ⟨b, o, none⟩) l.length c ∧ Fr.get tm' 7 = .int .i64 l.length ∧ Fr.get tm' 8 = .int .i64 i ∧ Fr.get tm' 3 = .int .u32 (byteN (foldN 4294967295 (l.take i)) x : Nat)) ?_ 8 _ _ ?_ ?_).mono ?_
      · rintro m _ ⟨j, tm', rfl, rfl, hj, k6, k7, k8, k16, k3⟩
        have hlt2 := iterN_lt j _ (xor_lt32 hlt (by omega : x.toNat < 4294967296))
        obtain ⟨w, hw, hw2, hw3⟩ := step_code hlt2
        simp (maxSteps := 1000000) (disch := first | decide | omega | (simp only [go_sem]; first | done | omega)) only [go_sem, Int.reduceToNat, Nat.reduceMul, Nat.reduceAdd, Nat.reduceSub, ↓EU_region, ↓EU_draw, k6, k7, k8, k16, k3, hw]
        ((repeat refine WPo_ob ?_); (first | refine WPo_cond (fun b2 => ?_) (fun b2 => ?_) | refine WPo_gard (fun b2 => ?_) (fun b2 => ?_) | refine WPo_gardT (fun b2 => ?_) (fun b2 => ?_)) <;> (try simp only [Bool.not_eq_true', Bool.not_eq_false'] at b2))
        · simp only [decide_eq_true_eq] at b2
          have hlt3 : (iterN j (foldN 4294967295 (l.take i) ^^^ x.toNat)) >>> 1 < 4294967296 := shr1_lt hlt2
          have hlt4 : 2197175160 &&& w < 4294967296 := Nat.lt_of_le_of_lt Nat.and_le_left (by decide)
          have hlt5 : (iterN j (foldN 4294967295 (l.take i) ^^^ x.toNat)) &&& 1 < 4294967296 := Nat.lt_of_le_of_lt Nat.and_le_left hlt2
          simp (maxSteps := 1000000) (disch := first | decide | omega | (simp only [go_sem]; first | done | omega)) only [go_sem, Int.reduceToNat, Nat.reduceMul, Nat.reduceAdd, Nat.reduceSub, ↓EU_region, ↓EU_draw, k6, k7, k8, k16, k3, hw, hw3]
          refine ⟨_, by omega, j + 1, _, rfl, rfl, by omega, by simp (maxSteps := 1000000) (disch := first | decide | omega | (simp only [go_sem]; first | done | omega)) only [go_sem, Int.reduceToNat, Nat.reduceMul, Nat.reduceAdd, Nat.reduceSub, ↓EU_region, ↓EU_draw, k6], by simp (maxSteps := 1000000) (disch := first | decide | omega | (simp only [go_sem]; first | done | omega)) only [go_sem, Int.reduceToNat, Nat.reduceMul, Nat.reduceAdd, Nat.reduceSub, ↓EU_region, ↓EU_draw, k7], by simp (maxSteps := 1000000) (disch := first | decide | omega | (simp only [go_sem]; first | done | omega)) only [go_sem, Int.reduceToNat, Nat.reduceMul, Nat.reduceAdd, Nat.reduceSub, ↓EU_region, ↓EU_draw, k8], by simp (maxSteps := 1000000) (disch := first | decide | omega | (simp only [go_sem]; first | done | omega)) only [go_sem, Int.reduceToNat, Nat.reduceMul, Nat.reduceAdd, Nat.reduceSub, ↓EU_region, ↓EU_draw], ?_⟩
          simp (maxSteps := 1000000) (disch := first | decide | omega | (simp only [go_sem]; first | done | omega)) only [go_sem, Int.reduceToNat, Nat.reduceMul, Nat.reduceAdd, Nat.reduceSub, ↓EU_region, ↓EU_draw, iterN_snoc]
        · simp only [decide_eq_false_iff_not] at b2
          have : j = 8 := by omega
          subst this
          simp (maxSteps := 1000000) (disch := first | decide | omega | (simp only [go_sem]; first | done | omega)) only [go_sem, Int.reduceToNat, Nat.reduceMul, Nat.reduceAdd, Nat.reduceSub, ↓EU_region, ↓EU_draw]
          exact ⟨_, rfl, trivial, by simp (maxSteps := 1000000) (disch := first | decide | omega | (simp only [go_sem]; first | done | omega)) only [go_sem, Int.reduceToNat, Nat.reduceMul, Nat.reduceAdd, Nat.reduceSub, ↓EU_region, ↓EU_draw, k6], by simp (maxSteps := 1000000) (disch := first | decide | omega | (simp only [go_sem]; first | done | omega)) only [go_sem, Int.reduceToNat, Nat.reduceMul, Nat.reduceAdd, Nat.reduceSub, ↓EU_region, ↓EU_draw, k7], by simp (maxSteps := 1000000) (disch := first | decide | omega | (simp only [go_sem]; first | done | omega)) only [go_sem, Int.reduceToNat, Nat.reduceMul, Nat.reduceAdd, Nat.reduceSub, ↓EU_region, ↓EU_draw, k8], by simp (maxSteps := 1000000) (disch := first | decide | omega | (simp only [go_sem]; first | done | omega)) only [go_sem, Int.reduceToNat, Nat.reduceMul, Nat.reduceAdd, Nat.reduceSub, ↓EU_region, ↓EU_draw, k3]; rfl⟩
      · exact ⟨0, _, rfl, rfl, by omega, by simp (maxSteps := 1000000) (disch := first | decide | omega | (simp only [go_sem]; first | done | omega)) only [go_sem, Int.reduceToNat, Nat.reduceMul, Nat.reduceAdd, Nat.reduceSub, ↓EU_region, ↓EU_draw, g6], by simp (maxSteps := 1000000) (disch := first | decide | omega | (simp only [go_sem]; first | done | omega)) only [go_sem, Int.reduceToNat, Nat.reduceMul, Nat.reduceAdd, Nat.reduceSub, ↓EU_region, ↓EU_draw, g7], by simp (maxSteps := 1000000) (disch := first | decide | omega | (simp only [go_sem]; first | done | omega)) only [go_sem, Int.reduceToNat, Nat.reduceMul, Nat.reduceAdd, Nat.reduceSub, ↓EU_region, ↓EU_draw, g8], by simp (maxSteps := 1000000) (disch := first | decide | omega | (simp only [go_sem]; first | done | omega)) only [go_sem, Int.reduceToNat, Nat.reduceMul, Nat.reduceAdd, Nat.reduceSub, ↓EU_region, ↓EU_draw]; rfl, by simp (maxSteps := 1000000) (disch := first | decide | omega | (simp only [go_sem]; first | done | omega)) only [go_sem, Int.reduceToNat, Nat.reduceMul, Nat.reduceAdd, Nat.reduceSub, ↓EU_region, ↓EU_draw]; rfl⟩
      · omega
      · rintro ⟨q, _⟩ ⟨tm', rfl, rfl, k6, k7, k8, k3⟩
        simp (maxSteps := 1000000) (disch := first | decide | omega | (simp only [go_sem]; first | done | omega)) only [go_sem, Int.reduceToNat, Nat.reduceMul, Nat.reduceAdd, Nat.reduceSub, ↓EU_region, ↓EU_draw, k6, k7, k8]
        exact ⟨_, by omega, i + 1, _, rfl, rfl, by omega, by simp (maxSteps := 1000000) (disch := first | decide | omega | (simp only [go_sem]; first | done | omega)) only [go_sem, Int.reduceToNat, Nat.reduceMul, Nat.reduceAdd, Nat.reduceSub, ↓EU_region, ↓EU_draw, k6], by simp (maxSteps := 1000000) (disch := first | decide | omega | (simp only [go_sem]; first | done | omega)) only [go_sem, Int.reduceToNat, Nat.reduceMul, Nat.reduceAdd, Nat.reduceSub, ↓EU_region, ↓EU_draw, k7], by simp (maxSteps := 1000000) (disch := first | decide | omega | (simp only [go_sem]; first | done | omega)) only [go_sem, Int.reduceToNat, Nat.reduceMul, Nat.reduceAdd, Nat.reduceSub, ↓EU_region, ↓EU_draw], by simp (maxSteps := 1000000) (disch := first | decide | omega | (simp only [go_sem]; first | done | omega)) only [go_sem, Int.reduceToNat, Nat.reduceMul, Nat.reduceAdd, Nat.reduceSub, ↓EU_region, ↓EU_draw, k3]; rw [hcs]⟩
    · simp only [decide_eq_false_iff_not] at b1
      simp (maxSteps := 1000000) (disch := first | decide | omega | (simp only [go_sem]; first | done | omega)) only [go_sem, Int.reduceToNat, Nat.reduceMul, Nat.reduceAdd, Nat.reduceSub, ↓EU_region, ↓EU_draw]
      have : i = l.length := by omega
      subst this
      rw [List.take_length] at g3
      exact ⟨_, rfl, trivial, by simp (maxSteps := 1000000) (disch := first | decide | omega | (simp only [go_sem]; first | done | omega)) only [go_sem, Int.reduceToNat, Nat.reduceMul, Nat.reduceAdd, Nat.reduceSub, ↓EU_region, ↓EU_draw, g3]⟩
  · exact ⟨0, _, rfl, rfl, by omega, by simp (maxSteps := 1000000) (disch := first | decide | omega | (simp only [go_sem]; first | done | omega)) only [go_sem, Int.reduceToNat, Nat.reduceMul, Nat.reduceAdd, Nat.reduceSub, ↓EU_region, ↓EU_draw], by simp (maxSteps := 1000000) (disch := first | decide | omega | (simp only [go_sem]; first | done | omega)) only [go_sem, Int.reduceToNat, Nat.reduceMul, Nat.reduceAdd, Nat.reduceSub, ↓EU_region, ↓EU_draw], by simp (maxSteps := 1000000) (disch := first | decide | omega | (simp only [go_sem]; first | done | omega)) only [go_sem, Int.reduceToNat, Nat.reduceMul, Nat.reduceAdd, Nat.reduceSub, ↓EU_region, ↓EU_draw]; rfl, by simp (maxSteps := 1000000) (disch := first | decide | omega | (simp only [go_sem]; first | done | omega)) only [go_sem, Int.reduceToNat, Nat.reduceMul, Nat.reduceAdd, Nat.reduceSub, ↓EU_region, ↓EU_draw]; rfl⟩
  · omega
  · rintro ⟨q, _⟩ ⟨tm, rfl, rfl, g3⟩
    have hlt := foldN_lt l 4294967295 (by decide)
    simp (maxSteps := 1000000) (disch := first | decide | omega | (simp only [go_sem]; first | done | omega)) only [go_sem, Int.reduceToNat, Nat.reduceMul, Nat.reduceAdd, Nat.reduceSub, ↓EU_region, ↓EU_draw, g3]
    exact ⟨rfl, Ext.refl _⟩
theorem clone_ev (l : List UInt8) (s : Value) (h : Heap) (hs : SL byteE 1 h s l) (hl : l.length < 900000) :
    WPo (EF Tryz.prog O0 39 [s] h) fun q => OW byteE 1 q.2 q.1 l ∧ Fresh h.next q.1 ∧ Ext h q.2 := by
  rw [EF_body (O := O0) (by kernel_rfl) Tryz.func39 rfl (rs := [.tmp 2]) rfl (bad := []) (by kernel_rfl) _ _ (m := 8) rfl]
  have hs' := hs
  cases hs with
  | nil =>
    simp (maxSteps := 1000000) (disch := first | decide | omega | (simp only [go_sem]; first | done | omega)) only [go_sem, Int.reduceToNat, Nat.reduceMul, Nat.reduceAdd, Nat.reduceSub, ↓EU_region, ↓EU_draw]
    exact ⟨.nil, Fresh.nil _ _ _, Ext.refl _⟩
  | mk b o c l cs hb hc hll hx hcap hq =>
    simp (maxSteps := 1000000) (disch := first | decide | omega | (simp only [go_sem]; first | done | omega)) only [go_sem, Int.reduceToNat, Nat.reduceMul, Nat.reduceAdd, Nat.reduceSub, ↓EU_region, ↓EU_draw]
    repeat refine WPo_ob ?_
    refine append_own (h0 := h) (l := []) (l' := l) fc_ap_37_37 (fun _ => rfl) (by decide) byteE_scal ((Ext.refl h).push _) (OW.lit byteE_len h []) (Fresh.mk _ _ _ (Nat.le_refl _)) (hs'.ext ((Ext.refl h).push _)) (by simp; omega) (by simp; omega) fun v h' ho hf x _ _ => ?_
    simp (maxSteps := 1000000) (disch := first | decide | omega | (simp only [go_sem]; first | done | omega)) only [go_sem, Int.reduceToNat, Nat.reduceMul, Nat.reduceAdd, Nat.reduceSub, ↓EU_region, ↓EU_draw]
    exact ⟨ho, hf, x⟩
/-- the four bytes behind -/
noncomputable def tailN (c : Nat) : List UInt8 := [UInt8.ofNat (c >>> 24), UInt8.ofNat (c >>> 16), UInt8.ofNat (c >>> 8), UInt8.ofNat c]
noncomputable def sealN (l : List UInt8) : List UInt8 := l ++ tailN (crcN l)
theorem conv_u8 (n : Nat) : wrapF .u8 (n : Int) = ((UInt8.ofNat n).toNat : Int) := by
  show Int.emod (n : Int) 256 = _
  rw [UInt8.toNat_ofNat']
  rfl
theorem put_ev (l : List UInt8) (s : Value) (h : Heap) (hs : SL byteE 1 h s l) (hl : l.length < 800000) :
    WPo (EF Tryz.prog O0 81 [s] h) fun q => OW byteE 1 q.2 q.1 (sealN l) ∧ Fresh h.next q.1 ∧ Ext h q.2 := by
  have hc := crcN_lt l
  rw [EF_body (O := O0) (by kernel_rfl) Tryz.func81 rfl (rs := [.tmp 2]) rfl (bad := []) (by kernel_rfl) _ _ (m := 21) rfl]
  simp (maxSteps := 1000000) (disch := first | decide | omega | (simp only [go_sem]; first | done | omega)) only [go_sem, Int.reduceToNat, Nat.reduceMul, Nat.reduceAdd, Nat.reduceSub, ↓EU_region, ↓EU_draw]
  repeat refine WPo_ob ?_
  refine (of_ev l s h hs (by omega)).bind fun h1 x1 => ?_
  simp (maxSteps := 1000000) (disch := first | decide | omega | (simp only [go_sem]; first | done | omega)) only [go_sem, Int.reduceToNat, Nat.reduceMul, Nat.reduceAdd, Nat.reduceSub, ↓EU_region, ↓EU_draw]
  repeat refine WPo_ob ?_
  refine (clone_ev l s h1 (hs.ext x1) (by omega)).mono ?_
  rintro ⟨v, h2⟩ ⟨ho, hf, x2⟩
  simp (maxSteps := 1000000) (disch := first | decide | omega | (simp only [go_sem]; first | done | omega)) only [go_sem, Int.reduceToNat, Nat.reduceMul, Nat.reduceAdd, Nat.reduceSub, ↓EU_region, ↓EU_draw, conv_u8]
  repeat refine WPo_ob ?_
  refine append_own (h0 := h) (l := l) (l' := tailN (crcN l)) fc_ap_37_37 (fun _ => rfl) (by decide) byteE_scal ((x1.trans x2).push _) (ho.ext ((Ext.refl h2).push _)) (hf.mono x1.le) (OW.lit byteE_len h2 (tailN (crcN l))).sl (by simp [tailN]; omega) (by simp [tailN]; omega) fun v h' ho hf x _ _ => ?_
  simp (maxSteps := 1000000) (disch := first | decide | omega | (simp only [go_sem]; first | done | omega)) only [go_sem, Int.reduceToNat, Nat.reduceMul, Nat.reduceAdd, Nat.reduceSub, ↓EU_region, ↓EU_draw]
  exact ⟨ho, hf, x⟩
theorem bytesEq_ev (l m : List UInt8) (s t : Value) (h : Heap) (hs : SL byteE 1 h s l) (ht : SL byteE 1 h t m) : EF Tryz.prog O0 103 [s, t] h = some (.bool (decide (l = m)), h) := by
  have : WPo (EF Tryz.prog O0 103 [s, t] h) fun q => q = (.bool (decide (l = m)), h) := by
    have e1 := conv_str fc_un_37 fc_un_9 fc_un_5 hs
    have e2 := conv_str fc_un_37 fc_un_9 fc_un_5 ht
    rw [EF_body (O := O0) (by kernel_rfl) Tryz.func103 rfl (rs := [.tmp 4]) rfl (bad := []) (by kernel_rfl) _ _ (m := 10) rfl]
    simp (maxSteps := 1000000) (disch := first | decide | omega | (simp only [go_sem]; first | done | omega)) only [go_sem, Int.reduceToNat, Nat.reduceMul, Nat.reduceAdd, Nat.reduceSub, ↓EU_region, ↓EU_draw, e1, e2]
  obtain ⟨q, e, rfl⟩ := this
  exact e
noncomputable def openN (b : List UInt8) : Option (List UInt8) := if b.length < 4 then none else if sealN (b.take (b.length - 4)) = b then some (b.take (b.length - 4)) else none
theorem get_ev (l : List UInt8) (s : Value) (h : Heap) (hs : SL byteE 1 h s l) (hl : l.length < 800000) :
    WPo (EF Tryz.prog O0 99 [s] h) fun q => Ext h q.2 ∧ match openN l with
      | none => q.1 = .tuple ⟨[.slice none 0 1, .int .i64 9]⟩
      | some b => ∃ v, q.1 = .tuple ⟨[v, .int .i64 0]⟩ ∧ OW byteE 1 q.2 v b ∧ Fresh h.next v := by
  unfold openN
  rw [EF_body (O := O0) (by kernel_rfl) Tryz.func99 rfl (rs := [.tmp 2, .tmp 3]) rfl (bad := []) (by kernel_rfl) _ _ (m := 23) rfl]
  obtain ⟨a, c, hv⟩ := hs.val
  subst hv
  simp (maxSteps := 1000000) (disch := first | decide | omega | (simp only [go_sem]; first | done | omega)) only [go_sem, Int.reduceToNat, Nat.reduceMul, Nat.reduceAdd, Nat.reduceSub, ↓EU_region, ↓EU_draw]
  ((repeat refine WPo_ob ?_); (first | refine WPo_cond (fun b1 => ?_) (fun b1 => ?_) | refine WPo_gard (fun b1 => ?_) (fun b1 => ?_) | refine WPo_gardT (fun b1 => ?_) (fun b1 => ?_)) <;> (try simp only [Bool.not_eq_true', Bool.not_eq_false'] at b1))
  · have b1' := b1
    simp only [decide_eq_false_iff_not] at b1'
    rw [if_neg (by omega)]
    obtain ⟨u, hu, su, bu⟩ := cut_to fc_sl_37 hs .i64 ((l.length : Int) - 4) (l.length - 4) (by omega) (by omega)
    simp (maxSteps := 1000000) (disch := first | decide | omega | (simp only [go_sem]; first | done | omega)) only [go_sem, Int.reduceToNat, Nat.reduceMul, Nat.reduceAdd, Nat.reduceSub, ↓EU_region, ↓EU_draw, hu, b1]
    repeat refine WPo_ob ?_
    refine (put_ev _ u h su (by rw [List.length_take]; omega)).mono ?_
    rintro ⟨v, h1⟩ ⟨ho, hf, x1⟩
    have e1 := bytesEq_ev _ _ v _ h1 ho.sl (hs.ext x1)
    simp (maxSteps := 1000000) (disch := first | decide | omega | (simp only [go_sem]; first | done | omega)) only [go_sem, Int.reduceToNat, Nat.reduceMul, Nat.reduceAdd, Nat.reduceSub, ↓EU_region, ↓EU_draw, e1, b1]
    ((repeat refine WPo_ob ?_); (first | refine WPo_cond (fun b2 => ?_) (fun b2 => ?_) | refine WPo_gard (fun b2 => ?_) (fun b2 => ?_) | refine WPo_gardT (fun b2 => ?_) (fun b2 => ?_)) <;> (try simp only [Bool.not_eq_true', Bool.not_eq_false'] at b2))
    · simp only [decide_eq_false_iff_not] at b2
      rw [if_neg b2]
      simp (maxSteps := 1000000) (disch := first | decide | omega | (simp only [go_sem]; first | done | omega)) only [go_sem, Int.reduceToNat, Nat.reduceMul, Nat.reduceAdd, Nat.reduceSub, ↓EU_region, ↓EU_draw, b2]
      exact ⟨x1, by trivial⟩
    · have b2' := b2
      simp only [decide_eq_true_eq] at b2'
      rw [if_pos b2']
      obtain ⟨u', hu', su', bu'⟩ := cut_to fc_sl_37 (hs.ext x1) .i64 ((l.length : Int) - 4) (l.length - 4) (by omega) (by omega)
      simp (maxSteps := 1000000) (disch := first | decide | omega | (simp only [go_sem]; first | done | omega)) only [go_sem, Int.reduceToNat, Nat.reduceMul, Nat.reduceAdd, Nat.reduceSub, ↓EU_region, ↓EU_draw, b2, hu']
      repeat refine WPo_ob ?_
      refine (clone_ev _ u' h1 su' (by rw [List.length_take]; omega)).mono ?_
      rintro ⟨v', h2⟩ ⟨ho2, hf2, x2⟩
      simp (maxSteps := 1000000) (disch := first | decide | omega | (simp only [go_sem]; first | done | omega)) only [go_sem, Int.reduceToNat, Nat.reduceMul, Nat.reduceAdd, Nat.reduceSub, ↓EU_region, ↓EU_draw]
      exact ⟨x1.trans x2, v', rfl, ho2, hf2.mono x1.le⟩
  · have b1' := b1
    simp only [decide_eq_true_eq] at b1'
    rw [if_pos (by omega)]
    simp (maxSteps := 1000000) (disch := first | decide | omega | (simp only [go_sem]; first | done | omega)) only [go_sem, Int.reduceToNat, Nat.reduceMul, Nat.reduceAdd, Nat.reduceSub, ↓EU_region, ↓EU_draw, b1]
    exact ⟨Ext.refl _, by trivial⟩
theorem crc_ev (l : List UInt8) (s : Value) (h : Heap) (hs : SL byteE 1 h s l) (hl : l.length < 900000) :
    Pu (EF Tryz.prog O0 66 [s] h) h (.int .u32 (crcN l : Nat)) := by
  unfold Pu
  rw [EF_body (O := O0) (by kernel_rfl) Tryz.func66 rfl (rs := [.tmp 2]) rfl (bad := []) (by kernel_rfl) _ _ (m := 34) rfl]
  obtain ⟨a, c, hv⟩ := hs.val
  subst hv
  simp (maxSteps := 1000000) (disch := first | decide | omega | (simp only [go_sem]; first | done | omega)) only [go_sem, Int.reduceToNat, Nat.reduceMul, Nat.reduceAdd, Nat.reduceSub, ↓EU_region, ↓EU_draw]
  repeat refine WPo_ob ?_
  refine (LP_rule (fun m st => ∃ i tm, st = ⟨tm, h, []⟩ ∧ m = l.length - i ∧ i ≤ l.length ∧ Fr.get tm 0 = .slice a l.length c ∧ Fr.get tm 4 = .int .i64 i ∧ Fr.get tm 3 = .int .u32 (foldN 4294967295 (l.take i) : Nat))
    (fun q => ∃ tm, q.2 = ⟨tm, h, []⟩ ∧ q.1 = .exit 0 ∧ Fr.get tm 3 = .int .u32 (foldN 4294967295 l : Nat)) ?_ l.length _ _ ?_ ?_).mono ?_
  · rintro m _ ⟨i, tm, rfl, rfl, hi, g0, g4, g3⟩
    simp (maxSteps := 1000000) (disch := first | decide | omega | (simp only [go_sem]; first | done | omega)) only [go_sem, Int.reduceToNat, Nat.reduceMul, Nat.reduceAdd, Nat.reduceSub, ↓EU_region, ↓EU_draw, g0, g4, g3]
    ((repeat refine WPo_ob ?_); (first | refine WPo_cond (fun b1 => ?_) (fun b1 => ?_) | refine WPo_gard (fun b1 => ?_) (fun b1 => ?_) | refine WPo_gardT (fun b1 => ?_) (fun b1 => ?_)) <;> (try simp only [Bool.not_eq_true', Bool.not_eq_false'] at b1))
    · simp only [decide_eq_true_eq] at b1
      have hi' : i < l.length := by omega
      obtain ⟨x, hx⟩ : ∃ x, l[i]? = some x := ⟨_, List.getElem?_eq_getElem hi'⟩
      obtain ⟨b, o, c', e, hb', _, hr⟩ := hs.at hx rfl
      cases e
      have hr0 := hr 0 _ rfl
      rw [add_z] at hr0
      have hlt := foldN_lt (l.take i) 4294967295 (by decide)
      have hxl := x.toNat_lt
      have hcs : foldN 4294967295 (l.take (i + 1)) = byteN (foldN 4294967295 (l.take i)) x := by
        rw [List.take_add_one, hx]; unfold foldN; rw [List.foldl_append]; rfl
      simp (maxSteps := 1000000) (disch := first | decide | omega | (simp only [go_sem]; first | done | omega)) only [go_sem, Int.reduceToNat, Nat.reduceMul, Nat.reduceAdd, Nat.reduceSub, ↓EU_region, ↓EU_draw, g0, g4, g3, hr0]
      repeat refine WPo_ob ?_
      refine (LP_rule (fun m st => ∃ j tm', st = ⟨tm', h, []⟩ ∧ m = 8 - j ∧ j ≤ 8 ∧ Fr.get tm' 0 = .slice (some ⟨b, o, none⟩) l.length c ∧ Fr.get tm' 4 = .int .i64 i ∧ Fr.get tm' 5 = .int .i64 j ∧ Fr.get tm' 3 = .int .u32 (iterN j (foldN 4294967295 (l.take i) ^^^ x.toNat) : Nat))
        (fun q => ∃ tm', q.2 = ⟨tm', h, []⟩ ∧ q.1 = .exit 2 ∧ Fr.get tm' 0 = .slice (some ⟨b, o, none⟩) l.length c ∧ Fr.get tm' 4 = .int .i64 i ∧ Fr.get tm' 3 = .int .u32 (byteN (foldN 4294967295 (l.take i)) x : Nat)) ?_ 8 _ _ ?_ ?_).mono ?_
      · rintro m _ ⟨j, tm', rfl, rfl, hj, k0, k4, k5, k3⟩
        have hlt2 := iterN_lt j _ (xor_lt32 hlt (by omega : x.toNat < 4294967296))
        have hst := iterN_snoc j (foldN 4294967295 (l.take i) ^^^ x.toNat)
        unfold stepN at hst
        simp (maxSteps := 1000000) (disch := first | decide | omega | (simp only [go_sem]; first | done | omega)) only [go_sem, Int.reduceToNat, Nat.reduceMul, Nat.reduceAdd, Nat.reduceSub, ↓EU_region, ↓EU_draw, k0, k4, k5, k3]
        ((repeat refine WPo_ob ?_); (first | refine WPo_cond (fun b2 => ?_) (fun b2 => ?_) | refine WPo_gard (fun b2 => ?_) (fun b2 => ?_) | refine WPo_gardT (fun b2 => ?_) (fun b2 => ?_)) <;> (try simp only [Bool.not_eq_true', Bool.not_eq_false'] at b2))
        · simp only [decide_eq_true_eq] at b2
          have hlt3 : (iterN j (foldN 4294967295 (l.take i) ^^^ x.toNat)) >>> 1 < 4294967296 := shr1_lt hlt2
          have hlt5 : (iterN j (foldN 4294967295 (l.take i) ^^^ x.toNat)) &&& 1 < 4294967296 := Nat.lt_of_le_of_lt Nat.and_le_left hlt2
          simp (maxSteps := 1000000) (disch := first | decide | omega | (simp only [go_sem]; first | done | omega)) only [go_sem, Int.reduceToNat, Nat.reduceMul, Nat.reduceAdd, Nat.reduceSub, ↓EU_region, ↓EU_draw, k0, k4, k5, k3]
          ((repeat refine WPo_ob ?_); (first | refine WPo_cond (fun b3 => ?_) (fun b3 => ?_) | refine WPo_gard (fun b3 => ?_) (fun b3 => ?_) | refine WPo_gardT (fun b3 => ?_) (fun b3 => ?_)) <;> (try simp only [Bool.not_eq_true', Bool.not_eq_false'] at b3))
          · have b3' := b3
            simp only [decide_eq_true_eq, Nat.and_one_is_mod] at b3'
            rw [if_pos (by omega)] at hst
            simp (maxSteps := 1000000) (disch := first | decide | omega | (simp only [go_sem]; first | done | omega)) only [go_sem, Int.reduceToNat, Nat.reduceMul, Nat.reduceAdd, Nat.reduceSub, ↓EU_region, ↓EU_draw, k0, k4, k5, k3, b3]
            exact ⟨_, by omega, j + 1, _, rfl, rfl, by omega, by simp (maxSteps := 1000000) (disch := first | decide | omega | (simp only [go_sem]; first | done | omega)) only [go_sem, Int.reduceToNat, Nat.reduceMul, Nat.reduceAdd, Nat.reduceSub, ↓EU_region, ↓EU_draw, k0], by simp (maxSteps := 1000000) (disch := first | decide | omega | (simp only [go_sem]; first | done | omega)) only [go_sem, Int.reduceToNat, Nat.reduceMul, Nat.reduceAdd, Nat.reduceSub, ↓EU_region, ↓EU_draw, k4], by simp (maxSteps := 1000000) (disch := first | decide | omega | (simp only [go_sem]; first | done | omega)) only [go_sem, Int.reduceToNat, Nat.reduceMul, Nat.reduceAdd, Nat.reduceSub, ↓EU_region, ↓EU_draw], by simp (maxSteps := 1000000) (disch := first | decide | omega | (simp only [go_sem]; first | done | omega)) only [go_sem, Int.reduceToNat, Nat.reduceMul, Nat.reduceAdd, Nat.reduceSub, ↓EU_region, ↓EU_draw, hst]⟩
          · have b3' := b3
            simp only [decide_eq_false_iff_not, Nat.and_one_is_mod] at b3'
            rw [if_neg (by omega)] at hst
            simp (maxSteps := 1000000) (disch := first | decide | omega | (simp only [go_sem]; first | done | omega)) only [go_sem, Int.reduceToNat, Nat.reduceMul, Nat.reduceAdd, Nat.reduceSub, ↓EU_region, ↓EU_draw, k0, k4, k5, k3, b3]
            exact ⟨_, by omega, j + 1, _, rfl, rfl, by omega, by simp (maxSteps := 1000000) (disch := first | decide | omega | (simp only [go_sem]; first | done | omega)) only [go_sem, Int.reduceToNat, Nat.reduceMul, Nat.reduceAdd, Nat.reduceSub, ↓EU_region, ↓EU_draw, k0], by simp (maxSteps := 1000000) (disch := first | decide | omega | (simp only [go_sem]; first | done | omega)) only [go_sem, Int.reduceToNat, Nat.reduceMul, Nat.reduceAdd, Nat.reduceSub, ↓EU_region, ↓EU_draw, k4], by simp (maxSteps := 1000000) (disch := first | decide | omega | (simp only [go_sem]; first | done | omega)) only [go_sem, Int.reduceToNat, Nat.reduceMul, Nat.reduceAdd, Nat.reduceSub, ↓EU_region, ↓EU_draw], by simp (maxSteps := 1000000) (disch := first | decide | omega | (simp only [go_sem]; first | done | omega)) only [go_sem, Int.reduceToNat, Nat.reduceMul, Nat.reduceAdd, Nat.reduceSub, ↓EU_region, ↓EU_draw, hst]⟩
        · simp only [decide_eq_false_iff_not] at b2
          have : j = 8 := by omega
          subst this
          simp (maxSteps := 1000000) (disch := first | decide | omega | (simp only [go_sem]; first | done | omega)) only [go_sem, Int.reduceToNat, Nat.reduceMul, Nat.reduceAdd, Nat.reduceSub, ↓EU_region, ↓EU_draw]
          exact ⟨_, rfl, trivial, by simp (maxSteps := 1000000) (disch := first | decide | omega | (simp only [go_sem]; first | done | omega)) only [go_sem, Int.reduceToNat, Nat.reduceMul, Nat.reduceAdd, Nat.reduceSub, ↓EU_region, ↓EU_draw, k0], by simp (maxSteps := 1000000) (disch := first | decide | omega | (simp only [go_sem]; first | done | omega)) only [go_sem, Int.reduceToNat, Nat.reduceMul, Nat.reduceAdd, Nat.reduceSub, ↓EU_region, ↓EU_draw, k4], by simp (maxSteps := 1000000) (disch := first | decide | omega | (simp only [go_sem]; first | done | omega)) only [go_sem, Int.reduceToNat, Nat.reduceMul, Nat.reduceAdd, Nat.reduceSub, ↓EU_region, ↓EU_draw, k3]; rfl⟩
      · exact ⟨0, _, rfl, rfl, by omega, by simp (maxSteps := 1000000) (disch := first | decide | omega | (simp only [go_sem]; first | done | omega)) only [go_sem, Int.reduceToNat, Nat.reduceMul, Nat.reduceAdd, Nat.reduceSub, ↓EU_region, ↓EU_draw, g0], by simp (maxSteps := 1000000) (disch := first | decide | omega | (simp only [go_sem]; first | done | omega)) only [go_sem, Int.reduceToNat, Nat.reduceMul, Nat.reduceAdd, Nat.reduceSub, ↓EU_region, ↓EU_draw, g4], by simp (maxSteps := 1000000) (disch := first | decide | omega | (simp only [go_sem]; first | done | omega)) only [go_sem, Int.reduceToNat, Nat.reduceMul, Nat.reduceAdd, Nat.reduceSub, ↓EU_region, ↓EU_draw]; rfl, by simp (maxSteps := 1000000) (disch := first | decide | omega | (simp only [go_sem]; first | done | omega)) only [go_sem, Int.reduceToNat, Nat.reduceMul, Nat.reduceAdd, Nat.reduceSub, ↓EU_region, ↓EU_draw]; rfl⟩
      · omega
      · rintro ⟨q, _⟩ ⟨tm', rfl, rfl, k0, k4, k3⟩
        simp (maxSteps := 1000000) (disch := first | decide | omega | (simp only [go_sem]; first | done | omega)) only [go_sem, Int.reduceToNat, Nat.reduceMul, Nat.reduceAdd, Nat.reduceSub, ↓EU_region, ↓EU_draw, k0, k4]
        exact ⟨_, by omega, i + 1, _, rfl, rfl, by omega, by simp (maxSteps := 1000000) (disch := first | decide | omega | (simp only [go_sem]; first | done | omega)) only [go_sem, Int.reduceToNat, Nat.reduceMul, Nat.reduceAdd, Nat.reduceSub, ↓EU_region, ↓EU_draw, k0], by simp (maxSteps := 1000000) (disch := first | decide | omega | (simp only [go_sem]; first | done | omega)) only [go_sem, Int.reduceToNat, Nat.reduceMul, Nat.reduceAdd, Nat.reduceSub, ↓EU_region, ↓EU_draw], by simp (maxSteps := 1000000) (disch := first | decide | omega | (simp only [go_sem]; first | done | omega)) only [go_sem, Int.reduceToNat, Nat.reduceMul, Nat.reduceAdd, Nat.reduceSub, ↓EU_region, ↓EU_draw, k3]; rw [hcs]⟩
    · simp only [decide_eq_false_iff_not] at b1
      simp (maxSteps := 1000000) (disch := first | decide | omega | (simp only [go_sem]; first | done | omega)) only [go_sem, Int.reduceToNat, Nat.reduceMul, Nat.reduceAdd, Nat.reduceSub, ↓EU_region, ↓EU_draw]
      have : i = l.length := by omega
      subst this
      rw [List.take_length] at g3
      exact ⟨_, rfl, trivial, by simp (maxSteps := 1000000) (disch := first | decide | omega | (simp only [go_sem]; first | done | omega)) only [go_sem, Int.reduceToNat, Nat.reduceMul, Nat.reduceAdd, Nat.reduceSub, ↓EU_region, ↓EU_draw, g3]⟩
  · exact ⟨0, _, rfl, rfl, by omega, by simp (maxSteps := 1000000) (disch := first | decide | omega | (simp only [go_sem]; first | done | omega)) only [go_sem, Int.reduceToNat, Nat.reduceMul, Nat.reduceAdd, Nat.reduceSub, ↓EU_region, ↓EU_draw], by simp (maxSteps := 1000000) (disch := first | decide | omega | (simp only [go_sem]; first | done | omega)) only [go_sem, Int.reduceToNat, Nat.reduceMul, Nat.reduceAdd, Nat.reduceSub, ↓EU_region, ↓EU_draw]; rfl, by simp (maxSteps := 1000000) (disch := first | decide | omega | (simp only [go_sem]; first | done | omega)) only [go_sem, Int.reduceToNat, Nat.reduceMul, Nat.reduceAdd, Nat.reduceSub, ↓EU_region, ↓EU_draw]; rfl⟩
  · omega
  · rintro ⟨q, _⟩ ⟨tm, rfl, rfl, g3⟩
    have hlt := foldN_lt l 4294967295 (by decide)
    simp (maxSteps := 1000000) (disch := first | decide | omega | (simp only [go_sem]; first | done | omega)) only [go_sem, Int.reduceToNat, Nat.reduceMul, Nat.reduceAdd, Nat.reduceSub, ↓EU_region, ↓EU_draw, g3]
    exact ⟨rfl, Ext.refl _⟩
theorem rseal_ev (l : List UInt8) (s : Value) (h : Heap) (hs : SL byteE 1 h s l) (hl : l.length < 800000) :
    WPo (EF Tryz.prog O0 46 [s] h) fun q => OW byteE 1 q.2 q.1 (sealN l) ∧ Fresh h.next q.1 ∧ Ext h q.2 := by
  have hc := crcN_lt l
  rw [EF_body (O := O0) (by kernel_rfl) Tryz.func46 rfl (rs := [.tmp 2]) rfl (bad := []) (by kernel_rfl) _ _ (m := 22) rfl]
  simp (maxSteps := 1000000) (disch := first | decide | omega | (simp only [go_sem]; first | done | omega)) only [go_sem, Int.reduceToNat, Nat.reduceMul, Nat.reduceAdd, Nat.reduceSub, ↓EU_region, ↓EU_draw]
  repeat refine WPo_ob ?_
  refine (crc_ev l s h hs (by omega)).bind fun h1 x1 => ?_
  simp (maxSteps := 1000000) (disch := first | decide | omega | (simp only [go_sem]; first | done | omega)) only [go_sem, Int.reduceToNat, Nat.reduceMul, Nat.reduceAdd, Nat.reduceSub, ↓EU_region, ↓EU_draw]
  repeat refine WPo_ob ?_
  refine append_own (h0 := h) (l := []) (l' := l) fc_ap_37_37 (fun _ => rfl) (by decide) byteE_scal (x1.push _) (OW.lit byteE_len h1 []) (Fresh.mk _ _ _ x1.le) (hs.ext (x1.push _)) (by simp; omega) (by simp; omega) fun v h2 ho hf x2 _ _ => ?_
  simp (maxSteps := 1000000) (disch := first | decide | omega | (simp only [go_sem]; first | done | omega)) only [go_sem, Int.reduceToNat, Nat.reduceMul, Nat.reduceAdd, Nat.reduceSub, ↓EU_region, ↓EU_draw, conv_u8]
  repeat refine WPo_ob ?_
  refine append_own (h0 := h) (l := l) (l' := tailN (crcN l)) fc_ap_37_37 (fun _ => rfl) (by decide) byteE_scal (x2.push _) (ho.ext ((Ext.refl h2).push _)) hf (OW.lit byteE_len h2 (tailN (crcN l))).sl (by simp [tailN]; omega) (by simp [tailN]; omega) fun v h' ho hf x _ _ => ?_
  simp (maxSteps := 1000000) (disch := first | decide | omega | (simp only [go_sem]; first | done | omega)) only [go_sem, Int.reduceToNat, Nat.reduceMul, Nat.reduceAdd, Nat.reduceSub, ↓EU_region, ↓EU_draw]
  exact ⟨ho, hf, x⟩
theorem ropen_ev (l : List UInt8) (s : Value) (h : Heap) (hs : SL byteE 1 h s l) (hl : l.length < 800000) :
    WPo (EF Tryz.prog O0 47 [s] h) fun q => Ext h q.2 ∧ match openN l with
      | none => q.1 = .tuple ⟨[.slice none 0 1, .int .i64 9]⟩
      | some b => ∃ v, q.1 = .tuple ⟨[v, .int .i64 0]⟩ ∧ OW byteE 1 q.2 v b ∧ Fresh h.next v := by
  unfold openN
  rw [EF_body (O := O0) (by kernel_rfl) Tryz.func47 rfl (rs := [.tmp 2, .tmp 3]) rfl (bad := [1]) (by kernel_rfl) _ _ (m := 26) rfl]
  obtain ⟨a, c, hv⟩ := hs.val
  subst hv
  simp (maxSteps := 1000000) (disch := first | decide | omega | (simp only [go_sem]; first | done | omega)) only [go_sem, Int.reduceToNat, Nat.reduceMul, Nat.reduceAdd, Nat.reduceSub]
  (first | rw [EU_region] | rw [EU_draw _ _ rfl]); simp (maxSteps := 1000000) (disch := first | decide | omega | (simp only [go_sem]; first | done | omega)) only [go_sem, Int.reduceToNat, Nat.reduceMul, Nat.reduceAdd, Nat.reduceSub]
  rw [EU_bad _ _ rfl, EC_tab (tab := [(false, none), (false, none), (false, none), (false, none), (false, none), (false, none), (false, none), (false, none), (false, none), (true, none), (false, none), (false, none), (false, (some (0, 1))), (false, none), (false, none)]) (by kernel_rfl)]
  simp (maxSteps := 1000000) (disch := first | decide | omega | (simp only [go_sem]; first | done | omega)) only [go_sem, Int.reduceToNat, Nat.reduceMul, Nat.reduceAdd, Nat.reduceSub, ↓EU_region, ↓EU_draw]
  ((repeat refine WPo_ob ?_); (first | refine WPo_cond (fun b1 => ?_) (fun b1 => ?_) | refine WPo_gard (fun b1 => ?_) (fun b1 => ?_) | refine WPo_gardT (fun b1 => ?_) (fun b1 => ?_)) <;> (try simp only [Bool.not_eq_true', Bool.not_eq_false'] at b1))
  · have b1' := b1
    simp only [decide_eq_false_iff_not] at b1'
    rw [if_neg (by omega)]
    obtain ⟨u, hu, su, bu⟩ := cut_to fc_sl_37 hs .i64 ((l.length : Int) - 4) (l.length - 4) (by omega) (by omega)
    simp (maxSteps := 1000000) (disch := first | decide | omega | (simp only [go_sem]; first | done | omega)) only [go_sem, Int.reduceToNat, Nat.reduceMul, Nat.reduceAdd, Nat.reduceSub, ↓EU_region, ↓EU_draw, hu, b1]
    repeat refine WPo_ob ?_
    refine (rseal_ev _ u h su (by rw [List.length_take]; omega)).mono ?_
    rintro ⟨v, h1⟩ ⟨ho, hf, x1⟩
    have e1 := conv_str fc_un_37 fc_un_9 fc_un_5 ho.sl
    have e2 := conv_str fc_un_37 fc_un_9 fc_un_5 (hs.ext x1)
    have e3 := conv_str fc_un_37 fc_un_9 fc_un_5 hs
    simp (maxSteps := 1000000) (disch := first | decide | omega | (simp only [go_sem]; first | done | omega)) only [go_sem, Int.reduceToNat, Nat.reduceMul, Nat.reduceAdd, Nat.reduceSub, ↓EU_region, ↓EU_draw, e1, e2, e3, b1]
    ((repeat refine WPo_ob ?_); (first | refine WPo_cond (fun b2 => ?_) (fun b2 => ?_) | refine WPo_gard (fun b2 => ?_) (fun b2 => ?_) | refine WPo_gardT (fun b2 => ?_) (fun b2 => ?_)) <;> (try simp only [Bool.not_eq_true', Bool.not_eq_false'] at b2))
    · simp only [decide_eq_false_iff_not] at b2
      rw [if_neg b2]
      simp (maxSteps := 1000000) (disch := first | decide | omega | (simp only [go_sem]; first | done | omega)) only [go_sem, Int.reduceToNat, Nat.reduceMul, Nat.reduceAdd, Nat.reduceSub, ↓EU_region, ↓EU_draw, b2]
      exact ⟨x1, by trivial⟩
    · have b2' := b2
      simp only [decide_eq_true_eq] at b2'
      rw [if_pos b2']
      obtain ⟨u', hu', su', bu'⟩ := cut_to fc_sl_37 (hs.ext (x1.push (.cells [] 1))) .i64 ((l.length : Int) - 4) (l.length - 4) (by omega) (by omega)
      simp (maxSteps := 1000000) (disch := first | decide | omega | (simp only [go_sem]; first | done | omega)) only [go_sem, Int.reduceToNat, Nat.reduceMul, Nat.reduceAdd, Nat.reduceSub, ↓EU_region, ↓EU_draw, b2, hu']
      repeat refine WPo_ob ?_
      refine append_own (h0 := h) (l := []) (l' := l.take (l.length - 4)) fc_ap_37_37 (fun _ => rfl) (by decide) byteE_scal (x1.push _) (OW.lit byteE_len h1 []) (Fresh.mk _ _ _ x1.le) su' (by simp; omega) (by simp; omega) fun v' h2 ho2 hf2 x2 _ _ => ?_
      simp (maxSteps := 1000000) (disch := first | decide | omega | (simp only [go_sem]; first | done | omega)) only [go_sem, Int.reduceToNat, Nat.reduceMul, Nat.reduceAdd, Nat.reduceSub, ↓EU_region, ↓EU_draw]
      exact ⟨x2, v', rfl, ho2, hf2⟩
  · have b1' := b1
    simp only [decide_eq_true_eq] at b1'
    rw [if_pos (by omega)]
    simp (maxSteps := 1000000) (disch := first | decide | omega | (simp only [go_sem]; first | done | omega)) only [go_sem, Int.reduceToNat, Nat.reduceMul, Nat.reduceAdd, Nat.reduceSub, ↓EU_region, ↓EU_draw, b1]
    exact ⟨Ext.refl _, by trivial⟩
end Go.Proofs.YtddgcakiceodgaaGreat.EV
