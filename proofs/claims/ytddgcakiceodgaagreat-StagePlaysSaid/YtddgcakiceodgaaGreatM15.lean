/- Contracts: the reference's Same, big, got. No condition. Contract: the reference's Write, version 3. No condition. -/
import Derived.Test.YtddgcakiceodgaaGreatM14
namespace Go.Proofs.YtddgcakiceodgaaGreat.EV
open Go Go.Proofs
set_option linter.unusedVariables false
set_option linter.unusedSimpArgs false
set_option maxRecDepth 100000
theorem ritem_equal (a b : Item) : absPure Tryz.prog (Op.equal 91 (.agg ⟨itemE a⟩) (.agg ⟨itemE b⟩)) = some (itemEq a b) := by
 rw [eq_struct Tryz.underlying91 (by kernel_rfl) (itemC a b)]
 ·simp [itemC, itemEq]
  rfl
 ·intro f hf
  simp only [List.mem_cons, List.not_mem_nil, or_false] at hf
  rcases hf with rfl | rfl | rfl <;> exact ⟨by decide, by kernel_rfl⟩
@[go_sem] theorem ritem_neq (x y : Operand) (a b : Item) : evBin Tryz.prog .neq 91 x y (.agg ⟨itemE a⟩) (.agg ⟨itemE b⟩) = some (.bool (!itemEq a b)) := bin_neqS (ritem_equal a b) (by kernel_rfl) rfl rfl
theorem rsame_ev (c1 c2 : Int) (l m : List Item) (s t : Value) (h : Heap) (hs : SL itemE 3 h s l) (ht : SL itemE 3 h t m) (hl : l.length < 900000) :
  Pu (EF Tryz.prog O0 30 [formV c1 s, formV c2 t] h) h (.bool (decide (c1 = c2) && decide (l = m))) := by
 unfold Pu formV
 rw [EF_body (O := O0) (by kernel_rfl) Tryz.func30 rfl (rs := [.tmp 4]) rfl (bad := []) (by kernel_rfl) _ _ (m := 38) rfl]
 obtain ⟨a, c, hv⟩ := hs.val
 subst hv
 obtain ⟨a2, c2', hv⟩ := ht.val
 subst hv
 have x0 : Ext h ((h.push (.cells [.int .i64 c1, .slice a l.length c] 0)).push (.cells [.int .i64 c2, .slice a2 m.length c2'] 0)) := ((Ext.refl h).push _).push _
 have g1' : ((h.push (.cells [.int .i64 c1, .slice a l.length c] 0)).push (.cells [.int .i64 c2, .slice a2 m.length c2'] 0)).get h.next = .cells [.int .i64 c1, .slice a l.length c] 0 := by simp (disch := first|exact dis|fail) only [go_sem, Int.reduceToNat, Nat.reduceMul, Nat.reduceAdd, Nat.reduceSub, ↓EU_rg]
 have g2' : ((h.push (.cells [.int .i64 c1, .slice a l.length c] 0)).push (.cells [.int .i64 c2, .slice a2 m.length c2'] 0)).get (h.next + 1) = .cells [.int .i64 c2, .slice a2 m.length c2'] 0 := by simp (disch := first|exact dis|fail) only [go_sem, Int.reduceToNat, Nat.reduceMul, Nat.reduceAdd, Nat.reduceSub, ↓EU_rg]
 simp (disch := first|exact dis|fail) only [go_sem, Int.reduceToNat, Nat.reduceMul, Nat.reduceAdd, Nat.reduceSub, ↓EU_rg]
 generalize ((h.push (.cells [.int .i64 c1, .slice a l.length c] 0)).push (.cells [.int .i64 c2, .slice a2 m.length c2'] 0)) = h1 at *
 ((repeat refine WPo_ob ?_); (first | refine WPo_cond (fun b1 => ?_) (fun b1 => ?_) | refine WPo_gard (fun b1 => ?_) (fun b1 => ?_) | refine WPo_gardT (fun b1 => ?_) (fun b1 => ?_)) <;> (try simp only [Bool.not_eq_true', Bool.not_eq_false'] at b1))
 ·have b1' := b1
  simp only [decide_eq_true_eq] at b1'
  simp (disch := first|exact dis|fail) only [go_sem, Int.reduceToNat, Nat.reduceMul, Nat.reduceAdd, Nat.reduceSub, ↓EU_rg, b1, g1', g2']
  ((repeat refine WPo_ob ?_); (first | refine WPo_cond (fun b2 => ?_) (fun b2 => ?_) | refine WPo_gard (fun b2 => ?_) (fun b2 => ?_) | refine WPo_gardT (fun b2 => ?_) (fun b2 => ?_)) <;> (try simp only [Bool.not_eq_true', Bool.not_eq_false'] at b2))
  ·simp (disch := first|exact dis|fail) only [go_sem, Int.reduceToNat, Nat.reduceMul, Nat.reduceAdd, Nat.reduceSub, ↓EU_rg, b2]
   simp only [decide_eq_false_iff_not] at b2
   refine ⟨?_, x0⟩
   rw [decide_eq_false (fun e => b2 (by rw [e]))]
  ·have b2' := b2
   simp only [decide_eq_true_eq] at b2'
   simp (disch := first|exact dis|fail) only [go_sem, Int.reduceToNat, Nat.reduceMul, Nat.reduceAdd, Nat.reduceSub, ↓EU_rg, b2]
   repeat refine WPo_ob ?_
   refine (LP_rule (fun k st => ∃ (i : Nat) (tm : Fr), st = ⟨tm, h1, []⟩ ∧ k = l.length - i ∧ i ≤ l.length ∧ Fr.get tm 2 = ptr h.next 0 ∧ Fr.get tm 3 = ptr (h.next + 1) 0 ∧ Fr.get tm 5 = .int .i64 i ∧ l.take i = m.take i)
    (fun q => ∃ tm, q.2 = ⟨tm, h1, []⟩ ∧ ((q.1 = .exit 0 ∧ l = m) ∨ (q.1 = .ret ∧ l ≠ m ∧ Fr.get tm 4 = .bool false))) ?_ l.length _ _ ?_ ?_).mono ?_
   ·rintro k _ ⟨i, tm, rfl, rfl, hi, g2, g3, g5, ht1⟩
    simp (disch := first|exact dis|fail) only [go_sem, Int.reduceToNat, Nat.reduceMul, Nat.reduceAdd, Nat.reduceSub, ↓EU_rg, g2, g3, g5, g1', g2']
    ((repeat refine WPo_ob ?_); (first | refine WPo_cond (fun b3 => ?_) (fun b3 => ?_) | refine WPo_gard (fun b3 => ?_) (fun b3 => ?_) | refine WPo_gardT (fun b3 => ?_) (fun b3 => ?_)) <;> (try simp only [Bool.not_eq_true', Bool.not_eq_false'] at b3))
    ·have b3' := b3
     simp only [decide_eq_true_eq] at b3'
     have hi' : i < l.length := by omega
     obtain ⟨x, hx⟩ : ∃ x, l[i]? = some x := ⟨_, List.getElem?_eq_getElem hi'⟩
     obtain ⟨y, hy⟩ : ∃ y, m[i]? = some y := ⟨_, List.getElem?_eq_getElem (by omega)⟩
     obtain ⟨b, o, c', e, hb', hr, _⟩ := (hs.ext x0).at hx rfl
     cases e
     obtain ⟨b', o', c', e, hb'', hr', _⟩ := (ht.ext x0).at hy rfl
     cases e
     simp (disch := first|exact dis|fail) only [go_sem, Int.reduceToNat, Nat.reduceMul, Nat.reduceAdd, Nat.reduceSub, ↓EU_rg, g2, g3, g5, g1', g2', hr, hr']
     ((repeat refine WPo_ob ?_); (first | refine WPo_cond (fun b4 => ?_) (fun b4 => ?_) | refine WPo_gard (fun b4 => ?_) (fun b4 => ?_) | refine WPo_gardT (fun b4 => ?_) (fun b4 => ?_)) <;> (try simp only [Bool.not_eq_true', Bool.not_eq_false'] at b4))
     ·simp (disch := first|exact dis|fail) only [go_sem, Int.reduceToNat, Nat.reduceMul, Nat.reduceAdd, Nat.reduceSub, ↓EU_rg, b4]
      refine ⟨_, rfl, .inr ⟨trivial, ?_, by simp (disch := first|exact dis|fail) only [go_sem, Int.reduceToNat, Nat.reduceMul, Nat.reduceAdd, Nat.reduceSub, ↓EU_rg]⟩⟩
      intro e
      subst e
      rw [hx] at hy
      cases hy
      rw [(itemEq_iff x x).2 rfl] at b4
      cases b4
     ·have e := (itemEq_iff x y).1 b4
      simp (disch := first|exact dis|fail) only [go_sem, Int.reduceToNat, Nat.reduceMul, Nat.reduceAdd, Nat.reduceSub, ↓EU_rg, b4, g2, g3, g5]
      refine ⟨_, by omega, i + 1, _, rfl, rfl, by omega, by simp (disch := first|exact dis|fail) only [go_sem, Int.reduceToNat, Nat.reduceMul, Nat.reduceAdd, Nat.reduceSub, ↓EU_rg, g2], by simp (disch := first|exact dis|fail) only [go_sem, Int.reduceToNat, Nat.reduceMul, Nat.reduceAdd, Nat.reduceSub, ↓EU_rg, g3], by simp (disch := first|exact dis|fail) only [go_sem, Int.reduceToNat, Nat.reduceMul, Nat.reduceAdd, Nat.reduceSub, ↓EU_rg], ?_⟩
      rw [List.take_add_one, List.take_add_one, ht1, hx, hy, e]
    ·simp only [decide_eq_false_iff_not] at b3
     simp (disch := first|exact dis|fail) only [go_sem, Int.reduceToNat, Nat.reduceMul, Nat.reduceAdd, Nat.reduceSub, ↓EU_rg]
     have : i = l.length := by omega
     subst this
     rw [List.take_length, List.take_of_length_le (by omega)] at ht1
     exact ⟨_, rfl, .inl ⟨trivial, ht1⟩⟩
   ·exact ⟨0, _, rfl, rfl, by omega, by simp (disch := first|exact dis|fail) only [go_sem, Int.reduceToNat, Nat.reduceMul, Nat.reduceAdd, Nat.reduceSub, ↓EU_rg], by simp (disch := first|exact dis|fail) only [go_sem, Int.reduceToNat, Nat.reduceMul, Nat.reduceAdd, Nat.reduceSub, ↓EU_rg], by simp (disch := first|exact dis|fail) only [go_sem, Int.reduceToNat, Nat.reduceMul, Nat.reduceAdd, Nat.reduceSub, ↓EU_rg]; all_goals rfl, by simp⟩
   ·omega
   ·rintro ⟨q, _⟩ ⟨tm, rfl, ⟨rfl, e1⟩ | ⟨rfl, e1, e2⟩⟩
    ·simp (disch := first|exact dis|fail) only [go_sem, Int.reduceToNat, Nat.reduceMul, Nat.reduceAdd, Nat.reduceSub, ↓EU_rg]
     exact ⟨by rw [decide_eq_true e1], x0⟩
    ·simp (disch := first|exact dis|fail) only [go_sem, Int.reduceToNat, Nat.reduceMul, Nat.reduceAdd, Nat.reduceSub, ↓EU_rg, e2]
     exact ⟨by rw [decide_eq_false e1], x0⟩
 ·simp (disch := first|exact dis|fail) only [go_sem, Int.reduceToNat, Nat.reduceMul, Nat.reduceAdd, Nat.reduceSub, ↓EU_rg, b1]
  exact ⟨trivial, x0⟩
theorem big_ev (l : List UInt8) (s : Value) (n : Int) (size : Nat) (h : Heap) (ho : OW byteE 1 h s l) (hz : size ≤ 8) (hl : l.length < 800000) :
  WPo (EF Tryz.prog O0 45 [s, .int .i64 n, .int .i64 size] h) fun q => OW byteE 1 q.2 q.1 (l ++ numB n size) ∧ Gr s h q.1 q.2 := by
 rw [EF_body (O := O0) (by kernel_rfl) Tryz.func45 rfl (rs := [.tmp 6]) rfl (bad := []) (by kernel_rfl) _ _ (m := 24) rfl]
 simp (disch := first|exact dis|fail) only [go_sem, Int.reduceToNat, Nat.reduceMul, Nat.reduceAdd, Nat.reduceSub, ↓EU_rg]
 repeat refine WPo_ob ?_
 refine (LP_rule (fun m st => ∃ (i : Nat) (tm : Fr) (h1 : Heap) (v : Value), st = ⟨tm, h1, []⟩ ∧ m = i ∧ i ≤ size ∧ Fr.get tm 0 = v ∧ Fr.get tm 1 = .int .i64 n ∧ Fr.get tm 7 = .int .i64 ((i : Int) - 1) ∧ OW byteE 1 h1 v (l ++ (numB n size).take (size - i)) ∧ Gr s h v h1)
  (fun q => ∃ tm h1 v, q.2 = ⟨tm, h1, []⟩ ∧ q.1 = .exit 0 ∧ Fr.get tm 0 = v ∧ OW byteE 1 h1 v (l ++ numB n size) ∧ Gr s h v h1) ?_ size _ _ ?_ ?_).mono ?_
 ·rintro m _ ⟨i, tm, h1, v, rfl, rfl, hi, g0, g1, g7, ho1, x1⟩
  simp (disch := first|exact dis|fail) only [go_sem, Int.reduceToNat, Nat.reduceMul, Nat.reduceAdd, Nat.reduceSub, ↓EU_rg, g0, g1, g7]
  ((repeat refine WPo_ob ?_); (first | refine WPo_cond (fun b1 => ?_) (fun b1 => ?_) | refine WPo_gard (fun b1 => ?_) (fun b1 => ?_) | refine WPo_gardT (fun b1 => ?_) (fun b1 => ?_)) <;> (try simp only [Bool.not_eq_true', Bool.not_eq_false'] at b1))
  ·have b1' := b1
   simp only [decide_eq_true_eq] at b1'
   have hb : (n / 2 ^ (8 * ((m : Int) - 1)).toNat) % 256 = ((byteI n (m - 1)).toNat : Int) := by
    rw [byteI_toNat]; congr 3; omega
   have hw : wrapF .u8 (n / 2 ^ (8 * ((m : Int) - 1)).toNat) = ((byteI n (m - 1)).toNat : Int) := hb
   have hu : wrapF .u64 (8 * ((m : Int) - 1)) = 8 * ((m : Int) - 1) := by
    apply wrapU rfl
    constructor
    ·omega
    ·show 8 * ((m : Int) - 1) < 18446744073709551616
     omega
   have hnx : (numB n size).take (size - (m - 1)) = (numB n size).take (size - m) ++ [byteI n (m - 1)] := by
    rw [show size - (m - 1) = size - m + 1 by omega, List.take_add_one, numB_at n size (size - m) (by omega)]
    rw [show size - 1 - (size - m) = m - 1 by omega]; rfl
   simp (disch := first|exact dis|fail) only [go_sem, Int.reduceToNat, Nat.reduceMul, Nat.reduceAdd, Nat.reduceSub, ↓EU_rg, g0, g1, g7, hu, bin_shr64, hw]
   repeat refine WPo_ob ?_
   refine append_gr (l := l ++ (numB n size).take (size - m)) (l' := [byteI n (m - 1)]) fc_ap_37_37 (fun _ => rfl) (by decide) byteE_scal (ho1.ext ((Ext.refl h1).push _)) (OW.lit byteE_len h1 [byteI n (m - 1)]).sl (by simp; omega) (by simp; omega) fun v' h2 ho2 x2 => ?_
   rw [List.append_assoc, ← hnx] at ho2
   simp (disch := first|exact dis|fail) only [go_sem, Int.reduceToNat, Nat.reduceMul, Nat.reduceAdd, Nat.reduceSub, ↓EU_rg, g7]
   exact ⟨m - 1, by omega, m - 1, _, _, v', rfl, rfl, by omega, by simp (disch := first|exact dis|fail) only [go_sem, Int.reduceToNat, Nat.reduceMul, Nat.reduceAdd, Nat.reduceSub, ↓EU_rg], by simp (disch := first|exact dis|fail) only [go_sem, Int.reduceToNat, Nat.reduceMul, Nat.reduceAdd, Nat.reduceSub, ↓EU_rg, g1], by simp (disch := first|exact dis|fail) only [go_sem, Int.reduceToNat, Nat.reduceMul, Nat.reduceAdd, Nat.reduceSub, ↓EU_rg]; congr 1; omega, ho2, (x1.push _).trans x2⟩
  ·simp only [decide_eq_false_iff_not] at b1
   have : m = 0 := by omega
   subst this
   rw [Nat.sub_zero, List.take_of_length_le (by rw [numB_len]; omega)] at ho1
   simp (disch := first|exact dis|fail) only [go_sem, Int.reduceToNat, Nat.reduceMul, Nat.reduceAdd, Nat.reduceSub, ↓EU_rg]
   exact ⟨_, _, v, rfl, trivial, by simp (disch := first|exact dis|fail) only [go_sem, Int.reduceToNat, Nat.reduceMul, Nat.reduceAdd, Nat.reduceSub, ↓EU_rg, g0], ho1, x1⟩
 ·refine ⟨size, _, _, s, rfl, rfl, Nat.le_refl _, by simp (disch := first|exact dis|fail) only [go_sem, Int.reduceToNat, Nat.reduceMul, Nat.reduceAdd, Nat.reduceSub, ↓EU_rg], by simp (disch := first|exact dis|fail) only [go_sem, Int.reduceToNat, Nat.reduceMul, Nat.reduceAdd, Nat.reduceSub, ↓EU_rg], by simp (disch := first|exact dis|fail) only [go_sem, Int.reduceToNat, Nat.reduceMul, Nat.reduceAdd, Nat.reduceSub, ↓EU_rg], ?_, Gr.refl _ _⟩
  rw [Nat.sub_self, List.take_zero, List.append_nil]; exact ho
 ·omega
 ·rintro ⟨q, _⟩ ⟨tm, h1, v, rfl, rfl, g0, ho1, x1⟩
  simp (disch := first|exact dis|fail) only [go_sem, Int.reduceToNat, Nat.reduceMul, Nat.reduceAdd, Nat.reduceSub, ↓EU_rg, g0]
  exact ⟨ho1, x1⟩
theorem got_ev (l : List UInt8) (s : Value) (m : Nat) (h : Heap) (hs : SL byteE 1 h s l) (hm : m ≤ l.length) (h8 : m ≤ 8) (hl : l.length < 900000) :
  EF Tryz.prog O0 48 [s, .int .i64 m] h = some (.int .i64 (readN (l.take m)), h) := by
 have : WPo (EF Tryz.prog O0 48 [s, .int .i64 m] h) fun q => q = (.int .i64 (readN (l.take m)), h) := by
  rw [EF_body (O := O0) (by kernel_rfl) Tryz.func48 rfl (rs := [.tmp 4]) rfl (bad := []) (by kernel_rfl) _ _ (m := 21) rfl]
  obtain ⟨a, c, hv⟩ := hs.val
  subst hv
  have hlen : (l.take m).length = m := by rw [List.length_take]; omega
  simp (disch := first|exact dis|fail) only [go_sem, Int.reduceToNat, Nat.reduceMul, Nat.reduceAdd, Nat.reduceSub, ↓EU_rg]
  repeat refine WPo_ob ?_
  refine (LP_rule (fun k st => ∃ (i : Nat) (tm : Fr), st = ⟨tm, h, []⟩ ∧ k = m - i ∧ i ≤ m ∧ Fr.get tm 0 = .slice a l.length c ∧ Fr.get tm 1 = .int .i64 m ∧ Fr.get tm 6 = .int .i64 i ∧ Fr.get tm 5 = .int .i64 (readN ((l.take m).take i)))
   (fun q => ∃ tm, q.2 = ⟨tm, h, []⟩ ∧ q.1 = .exit 0 ∧ Fr.get tm 5 = .int .i64 (readN (l.take m))) ?_ m _ _ ?_ ?_).mono ?_
  ·rintro k _ ⟨i, tm, rfl, rfl, hi, g0, g1, g6, g5⟩
   simp (disch := first|exact dis|fail) only [go_sem, Int.reduceToNat, Nat.reduceMul, Nat.reduceAdd, Nat.reduceSub, ↓EU_rg, g0, g1, g6]
   ((repeat refine WPo_ob ?_); (first | refine WPo_cond (fun b1 => ?_) (fun b1 => ?_) | refine WPo_gard (fun b1 => ?_) (fun b1 => ?_) | refine WPo_gardT (fun b1 => ?_) (fun b1 => ?_)) <;> (try simp only [Bool.not_eq_true', Bool.not_eq_false'] at b1))
   ·simp only [decide_eq_true_eq] at b1
    have hi' : i < m := by omega
    obtain ⟨x, hx⟩ : ∃ x, l[i]? = some x := ⟨_, List.getElem?_eq_getElem (by omega)⟩
    have hx' : (l.take m)[i]? = some x := by rw [List.getElem?_take_of_lt hi']; exact hx
    obtain ⟨b, o, c', e, hb', _, hr⟩ := hs.at hx rfl
    cases e
    have hr0 := hr 0 _ rfl
    rw [add_z] at hr0
    have hxl := x.toNat_lt
    have hbe := beN_lt ((l.take m).take i)
    have hp : 256 ^ ((l.take m).take i).length ≤ 256 ^ 7 := Nat.pow_le_pow_right (by decide) (by rw [List.length_take]; omega)
    have hbe' : beN ((l.take m).take i) < 72057594037927936 := Nat.lt_of_lt_of_le hbe hp
    have hrd : readN ((l.take m).take i) = (beN ((l.take m).take i) : Int) := by
     unfold readN sgn64
     rw [if_pos (by omega)]
    have hrd2 : readN ((l.take m).take (i + 1)) = sgn64 (beN ((l.take m).take i) * 256 + x.toNat) := by
     unfold readN
     rw [List.take_add_one, hx']
     exact congrArg sgn64 (beN_snoc _ _)
    have hw : wrapF .i64 (x.toNat : Int) = (x.toNat : Int) := wrap64 (by omega)
    rw [hrd] at g5
    have hor := bin_or64 Tryz.prog 2 (.tmp 13) (.tmp 18) (beN ((l.take m).take i)) x hbe'
    rw [show (256 : Int) = 2 ^ 8 from rfl] at hor
    simp (disch := first|exact dis|fail) only [go_sem, Int.reduceToNat, Nat.reduceMul, Nat.reduceAdd, Nat.reduceSub, ↓EU_rg, g0, g1, g6, g5, hr0, bin_shl64, hw, hor]
    exact ⟨_, by omega, i + 1, _, rfl, rfl, by omega, by simp (disch := first|exact dis|fail) only [go_sem, Int.reduceToNat, Nat.reduceMul, Nat.reduceAdd, Nat.reduceSub, ↓EU_rg, g0], by simp (disch := first|exact dis|fail) only [go_sem, Int.reduceToNat, Nat.reduceMul, Nat.reduceAdd, Nat.reduceSub, ↓EU_rg, g1], by simp (disch := first|exact dis|fail) only [go_sem, Int.reduceToNat, Nat.reduceMul, Nat.reduceAdd, Nat.reduceSub, ↓EU_rg], by simp (disch := first|exact dis|fail) only [go_sem, Int.reduceToNat, Nat.reduceMul, Nat.reduceAdd, Nat.reduceSub, ↓EU_rg]; rw [hrd2]⟩
   ·simp only [decide_eq_false_iff_not] at b1
    have : i = m := by omega
    subst this
    rw [List.take_of_length_le (by omega)] at g5
    simp (disch := first|exact dis|fail) only [go_sem, Int.reduceToNat, Nat.reduceMul, Nat.reduceAdd, Nat.reduceSub, ↓EU_rg]
    exact ⟨_, rfl, trivial, by simp (disch := first|exact dis|fail) only [go_sem, Int.reduceToNat, Nat.reduceMul, Nat.reduceAdd, Nat.reduceSub, ↓EU_rg, g5]⟩
  ·exact ⟨0, _, rfl, rfl, by omega, by simp (disch := first|exact dis|fail) only [go_sem, Int.reduceToNat, Nat.reduceMul, Nat.reduceAdd, Nat.reduceSub, ↓EU_rg], by simp (disch := first|exact dis|fail) only [go_sem, Int.reduceToNat, Nat.reduceMul, Nat.reduceAdd, Nat.reduceSub, ↓EU_rg], by simp (disch := first|exact dis|fail) only [go_sem, Int.reduceToNat, Nat.reduceMul, Nat.reduceAdd, Nat.reduceSub, ↓EU_rg]; all_goals rfl, by simp (disch := first|exact dis|fail) only [go_sem, Int.reduceToNat, Nat.reduceMul, Nat.reduceAdd, Nat.reduceSub, ↓EU_rg]; all_goals rfl⟩
  ·omega
  ·rintro ⟨q, _⟩ ⟨tm, rfl, rfl, g5⟩
   simp (disch := first|exact dis|fail) only [go_sem, Int.reduceToNat, Nat.reduceMul, Nat.reduceAdd, Nat.reduceSub, ↓EU_rg, g5]
 obtain ⟨q, e, rfl⟩ := this
 exact e
theorem rwrite3_ev (tag cur : Int) (l : List Item) (s : Value) (h : Heap) (hs : SL itemE 3 h s l) (hl : l.length < 800000) :
  WPo (EF Tryz.prog O0 24 [.int .i64 3, .int .i64 tag, formV cur s] h) fun q => Ext h q.2 ∧ (cgood tag cur l = false → q.1 = .tuple ⟨[.slice none 0 1, .int .i64 1]⟩) ∧ (cgood tag cur l = true → ∃ u, q.1 = .tuple ⟨[u, .int .i64 0]⟩ ∧ OW byteE 1 q.2 u (sealN (encF tag cur l)) ∧ Fresh h.next u) := by
 have hG := rgood_ev cur l s (h.push (.cells [.int .i64 cur, s] 0)) (hs.ext ((Ext.refl h).push _)) (by omega)
 rw [EF_body (O := O0) (by kernel_rfl) Tryz.func24 rfl (rs := [.tmp 6, .tmp 7]) rfl (bad := [19, 23]) (by kernel_rfl) _ _ (m := 127) rfl]
 obtain ⟨a, c, hv⟩ := hs.val
 subst hv
 unfold formV at hG ⊢
 simp (disch := first|exact dis|fail) only [go_sem, simprocAttr, ↓EU_rg]
 ((repeat refine WPo_ob ?_); (first | refine WPo_cond (fun b1 => ?_) (fun b1 => ?_) | refine WPo_gard (fun b1 => ?_) (fun b1 => ?_) | refine WPo_gardT (fun b1 => ?_) (fun b1 => ?_)) <;> (try simp only [Bool.not_eq_true', Bool.not_eq_false'] at b1))
 ·have b1' := b1
  simp only [decide_eq_false_iff_not] at b1'
  simp (disch := first|exact dis|fail) only [go_sem, simprocAttr, ↓EU_rg, b1]
  ((repeat refine WPo_ob ?_); (first | refine WPo_cond (fun b2 => ?_) (fun b2 => ?_) | refine WPo_gard (fun b2 => ?_) (fun b2 => ?_) | refine WPo_gardT (fun b2 => ?_) (fun b2 => ?_)) <;> (try simp only [Bool.not_eq_true', Bool.not_eq_false'] at b2))
  ·have b2' := b2
   simp only [decide_eq_false_iff_not] at b2'
   simp (disch := first|exact dis|fail) only [go_sem, simprocAttr, ↓EU_rg, b1, b2]
   repeat refine WPo_ob ?_
   refine hG.bind fun h1 x1 => ?_
   have hx1 := ((Ext.refl h).push (.cells [.int .i64 cur, .slice a l.length c] 0)).trans x1
   have hF1 : h1.get h.next = .cells [.int .i64 cur, .slice a l.length c] 0 := by rw [x1.old _ (by rw [next_push]; omega)]; exact get_push_new _ _
   have hcg : cgood tag cur l = goodF cur l := by
    unfold cgood
    rw [decide_eq_true (by omega : 0 ≤ tag), decide_eq_true (by omega : tag ≤ 2)]; rfl
   cases hg : cgood tag cur l with
   | false =>
    rw [hcg] at hg
    simp (disch := first|exact dis|fail) only [go_sem, simprocAttr, ↓EU_rg, hg]
    exact ⟨hx1, by simp, by simp⟩
   | true =>
    have hgf : goodF cur l = true := by rw [← hcg]; exact hg
    obtain ⟨f1, f2, f3, f4⟩ := good_facts hgf
    have hn1 := x1.le
    rw [next_push] at hn1
    have hw3 : wrapF .u8 3 = 3 := rfl
    have hwt : wrapF .u8 tag = ((byteI tag 0).toNat : Int) := conv_i8 tag
    have hwl : wrapF .u8 (l.length : Int) = ((byteI (l.length : Int) 0).toNat : Int) := conv_i8 _
    simp (disch := first|exact dis|fail) only [go_sem, simprocAttr, ↓EU_rg, dec_t, dec_f, hgf, hF1, hw3, hwt]
    repeat refine WPo_ob ?_
    refine (big_ev [83, 72, 3, byteI tag 0] _ (cur + 1) 4 _ (OW.lit byteE_len h1 [83, 72, 3, byteI tag 0]) (by decide) (by simp)).mono ?_
    rintro ⟨v2, h2⟩ ⟨ho2, gr2⟩
    simp only at ho2 gr2
    obtain ⟨x2, hf2⟩ := gr2.new
    have hF2 : h2.get h.next = .cells [.int .i64 cur, .slice a l.length c] 0 := by rw [x2.old _ (by omega)]; exact hF1
    simp (disch := first|exact dis|fail) only [go_sem, simprocAttr, ↓EU_rg, hF2, hwl]
    repeat refine WPo_ob ?_
    refine append_own (h0 := h1) (l := [83, 72, 3, byteI tag 0] ++ numB (cur + 1) 4) (l' := [byteI (l.length : Int) 0]) fc_ap_37_37 (fun _ => rfl) (by decide) byteE_scal (x2.push _) (ho2.ext ((Ext.refl h2).push _)) hf2 (OW.lit byteE_len h2 [byteI (l.length : Int) 0]).sl (by simp [numB_len]) (by simp [numB_len]) fun v3 h3 ho3 hf3 x3 _ _ => ?_
    simp (disch := first|exact dis|fail) only [go_sem, simprocAttr, ↓EU_rg]
    repeat refine WPo_ob ?_
    have hpre : encF tag cur l = ([83, 72, 3, byteI tag 0] ++ numB (cur + 1) 4 ++ [byteI (l.length : Int) 0]) ++ l.flatMap encItem := by
     unfold encF; simp only [List.append_assoc, List.cons_append, List.nil_append]
    generalize ([83, 72, 3, byteI tag 0] ++ numB (cur + 1) 4 ++ [byteI (l.length : Int) 0]) = pre at *
    have hpl : pre.length + 13 * l.length < 800000 := by
     have := encF_len tag cur l
     rw [hpre, List.length_append, flatMap_enc_len] at this
     omega
    refine (LP_rule (fun m st => ∃ (i : Nat) (tm : Fr) (h' : Heap) (v : Value), st = ⟨tm, h', []⟩ ∧ m = l.length - i ∧ i ≤ l.length ∧ Fr.get tm 8 = v ∧ Fr.get tm 0 = .int .i64 3 ∧ Fr.get tm 5 = ptr h.next 0 ∧ Fr.get tm 9 = .int .i64 i ∧ OW byteE 1 h' v (pre ++ (l.take i).flatMap encItem) ∧ Fresh h1.next v ∧ Ext h1 h')
     (fun q => ∃ tm h' v, q.2 = ⟨tm, h', []⟩ ∧ q.1 = .exit 1 ∧ Fr.get tm 8 = v ∧ OW byteE 1 h' v (pre ++ l.flatMap encItem) ∧ Fresh h1.next v ∧ Ext h1 h') ?_ l.length _ _ ?_ ?_).mono ?_
    ·rintro m _ ⟨i, tm, h', v, rfl, rfl, hi, g8, g0, g5, g9, ho', hf', x'⟩
     have hF' : h'.get h.next = .cells [.int .i64 cur, .slice a l.length c] 0 := by rw [x'.old _ (by omega)]; exact hF1
     simp (disch := first|exact dis|fail) only [go_sem, simprocAttr, ↓EU_rg, g8, g0, g5, g9, hF']
     ((repeat refine WPo_ob ?_); (first | refine WPo_cond (fun b3 => ?_) (fun b3 => ?_) | refine WPo_gard (fun b3 => ?_) (fun b3 => ?_) | refine WPo_gardT (fun b3 => ?_) (fun b3 => ?_)) <;> (try simp only [Bool.not_eq_true', Bool.not_eq_false'] at b3))
     ·have b3' := b3
      simp only [decide_eq_true_eq] at b3'
      have hi' : i < l.length := by omega
      obtain ⟨x, hx⟩ : ∃ x, l[i]? = some x := ⟨_, List.getElem?_eq_getElem hi'⟩
      obtain ⟨b, o, c', e, hb', hrd, hr⟩ := (hs.ext hx1).at hx rfl
      cases e
      rw [← x'.old b hb'] at hrd hr
      have hil : (l.take i).length = i := by rw [List.length_take]; omega
      have hfl := flatMap_enc_len (l.take i)
      rw [hil] at hfl
      have hnx : pre ++ (l.take (i + 1)).flatMap encItem = pre ++ (l.take i).flatMap encItem ++ numB x.id 4 ++ [byteI x.w 0] ++ numB x.lag 8 := by
       rw [List.take_add_one, hx]
       simp [encItem]
      simp (disch := first|exact dis|fail) only [go_sem, simprocAttr, g8, g0, g5, g9, hF', hrd]
      (first | rw [EU_region] | rw [EU_draw _ _ rfl]); simp (disch := first|exact dis|fail) only [go_sem, simprocAttr, g8, g0, g5, g9, hF', hrd]
      (first | rw [EU_region] | rw [EU_draw _ _ rfl]); simp (disch := first|exact dis|fail) only [go_sem, simprocAttr, g8, g0, g5, g9, hF', hrd, dec_t]
      rw [EU_bad _ _ rfl, EC_tab (tab := [(false, none), (false, none), (false, none), (true, none), (false, none), (false, (some (0, 1))), (false, none), (true, none), (true, none), (false, none), (false, (some (0, 3))), (true, none), (false, none)]) (by kernel_rfl)]
      have hwx : wrapF .u8 x.w = ((byteI x.w 0).toNat : Int) := conv_i8 _
      simp (disch := first|exact dis|fail) only [go_sem, simprocAttr, ↓EU_rg, g8, g0, g5, g9, hF', hrd]
      repeat refine WPo_ob ?_
      refine (big_ev _ v x.id 4 _ (ho'.ext ((Ext.refl h').push _)) (by decide) (by rw [List.length_append]; omega)).mono ?_
      rintro ⟨v4, h4⟩ ⟨ho4, gr4⟩
      simp only at ho4 gr4
      have hv' : ¬ blkOf v h'.next := fun q => by have := ho'.lt q; omega
      have hv4 : ¬ blkOf v4 h'.next := fun q => by
       rcases gr4.src _ q with q | q
       ·exact hv' q
       ·rw [next_push] at q; omega
      have hc4 : h4.get h'.next = .cells (itemE x) 0 := by rw [gr4.old _ (by rw [next_push]; omega) hv']; exact get_push_new _ _
      have hn4 := gr4.le
      rw [next_push] at hn4
      simp (disch := first|exact dis|fail) only [go_sem, simprocAttr, ↓EU_rg, hc4, hwx]
      repeat refine WPo_ob ?_
      refine append_gr (l := pre ++ (l.take i).flatMap encItem ++ numB x.id 4) (l' := [byteI x.w 0]) fc_ap_37_37 (fun _ => rfl) (by decide) byteE_scal (ho4.ext ((Ext.refl h4).push _)) (OW.lit byteE_len h4 [byteI x.w 0]).sl (by simp only [List.length_append, numB_len, List.length_cons, List.length_nil]; omega) (by simp only [List.length_append, numB_len, List.length_cons, List.length_nil]; omega) fun v5 h5 ho5 gr5 => ?_
      have hc5 : h5.get h'.next = .cells (itemE x) 0 := by rw [gr5.old _ (by rw [next_push]; omega) hv4, get_push_old _ (by omega)]; exact hc4
      have hn5 := gr5.le
      rw [next_push] at hn5
      simp (disch := first|exact dis|fail) only [go_sem, simprocAttr, ↓EU_rg, hc5]
      repeat refine WPo_ob ?_
      refine (big_ev _ v5 x.lag 8 _ ho5 (by decide) (by simp only [List.length_append, numB_len, List.length_cons, List.length_nil]; omega)).mono ?_
      rintro ⟨v6, h6⟩ ⟨ho6, gr6⟩
      simp only at ho6 gr6
      rw [← hnx] at ho6
      have gr : Gr v (h'.push (.cells (itemE x) 0)) v6 h6 := (((gr4.push _).trans gr5)).trans gr6
      simp (disch := first|exact dis|fail) only [go_sem, simprocAttr, ↓EU_rg, hc4, hc5, g9]
      exact ⟨_, by omega, i + 1, _, h6, v6, rfl, rfl, by omega, by simp (disch := first|exact dis|fail) only [go_sem, simprocAttr, ↓EU_rg], by simp (disch := first|exact dis|fail) only [go_sem, simprocAttr, ↓EU_rg, g0], by simp (disch := first|exact dis|fail) only [go_sem, simprocAttr, ↓EU_rg, g5], by simp (disch := first|exact dis|fail) only [go_sem, simprocAttr, ↓EU_rg], ho6, gr.fresh hf' (by have := x'.le; rw [next_push]; omega), gr.ext0 (x'.push _) hf'⟩
     ·simp only [decide_eq_false_iff_not] at b3
      have : i = l.length := by omega
      subst this
      rw [List.take_length] at ho'
      simp (disch := first|exact dis|fail) only [go_sem, simprocAttr, ↓EU_rg]
      exact ⟨_, _, v, rfl, trivial, by simp (disch := first|exact dis|fail) only [go_sem, simprocAttr, ↓EU_rg, g8], ho', hf', x'⟩
    ·refine ⟨0, _, h3, v3, rfl, rfl, by omega, by simp (disch := first|exact dis|fail) only [go_sem, simprocAttr, ↓EU_rg], by simp (disch := first|exact dis|fail) only [go_sem, simprocAttr, ↓EU_rg], by simp (disch := first|exact dis|fail) only [go_sem, simprocAttr, ↓EU_rg], by simp (disch := first|exact dis|fail) only [go_sem, simprocAttr, ↓EU_rg]; all_goals rfl, ?_, hf3, x3⟩
     rw [List.take_zero, List.flatMap_nil, List.append_nil]; exact ho3
    ·omega
    ·rintro ⟨q, _⟩ ⟨tm, h', v, rfl, rfl, g8, ho', hf', x'⟩
     simp (disch := first|exact dis|fail) only [go_sem, simprocAttr, ↓EU_rg, g8]
     repeat refine WPo_ob ?_
     refine (rseal_ev _ v h' ho'.sl (by rw [List.length_append, flatMap_enc_len]; omega)).mono ?_
     rintro ⟨u, h''⟩ ⟨hou, hfu, xu⟩
     simp only at hou hfu xu
     simp (disch := first|exact dis|fail) only [go_sem, simprocAttr, ↓EU_rg]
     rw [hpre]
     refine ⟨hx1.trans (x'.trans xu), by simp, fun _ => ⟨u, rfl, hou, hfu.mono ?_⟩⟩
     have := x'.le
     have := hx1.le
     omega
  ·have b2' := b2
   simp only [decide_eq_true_eq] at b2'
   have hg : cgood tag cur l = false := by unfold cgood; rw [decide_eq_false (by omega : ¬ tag ≤ 2)]; simp
   simp (disch := first|exact dis|fail) only [go_sem, simprocAttr, ↓EU_rg, b2]
   exact ⟨(Ext.refl h).push _, by simp, by simp [hg]⟩
 ·have b1' := b1
  simp only [decide_eq_true_eq] at b1'
  have hg : cgood tag cur l = false := by unfold cgood; rw [decide_eq_false (by omega : ¬ 0 ≤ tag)]; simp
  simp (disch := first|exact dis|fail) only [go_sem, simprocAttr, ↓EU_rg, b1]
  exact ⟨(Ext.refl h).push _, by simp, by simp [hg]⟩
end Go.Proofs.YtddgcakiceodgaaGreat.EV
