/- Contracts: the reference's Same, big, got. No condition. -/
import Derived.Test.YtddgcakiceodgaaGreatRef1
import Derived.Test.YtddgcakiceodgaaGreatCode1
namespace Go.Proofs.YtddgcakiceodgaaGreat.EV
open Go Go.Proofs
set_option linter.unusedVariables false
set_option linter.unusedSimpArgs false
set_option maxRecDepth 100000
set_option pp.deepTerms false
set_option pp.deepTerms.threshold 20
theorem ritem_equal (a b : Item) : absPure Tryz.prog (Op.equal 91 (.agg ⟨itemE a⟩) (.agg ⟨itemE b⟩)) = some (itemEq a b) := by
  rw [eq_struct Tryz.underlying91 (by kernel_rfl) (itemC a b)]
  · simp [itemC, itemEq]
    rfl
  · intro f hf
    simp only [List.mem_cons, List.not_mem_nil, or_false] at hf
    rcases hf with rfl | rfl | rfl <;> exact ⟨by decide, by kernel_rfl⟩
@[go_sem] theorem ritem_neq (x y : Operand) (a b : Item) : evBin Tryz.prog .neq 91 x y (.agg ⟨itemE a⟩) (.agg ⟨itemE b⟩) = some (.bool (!itemEq a b)) := bin_neqS (ritem_equal a b) (by kernel_rfl) rfl rfl
theorem rsame_ev (c1 c2 : Int) (l m : List Item) (s t : Value) (h : Heap) (hs : SL itemE 3 h s l) (ht : SL itemE 3 h t m) (hl : l.length < 900000) :
    Pu (EF Tryz.prog O0 30 [formV c1 s, formV c2 t] h) h (.bool (decide (c1 = c2) && decide (l = m))) := by
  unfold Pu formV
  rw [EF_body (O := O0) (by kernel_rfl) Tryz.func30 rfl (rs := [.tmp 4]) rfl (bad := []) (by kernel_rfl) _ _ (m := 38) rfl]
  obtain ⟨a, c, hv⟩ := hs.val
  subst hv
  obtain ⟨a2, c2', hv⟩ := ht.val
  subst hv
  have x0 : Ext h ((h.push (.cells [.int .i64 c1, .slice a l.length c] 0)).push (.cells [.int .i64 c2, .slice a2 m.length c2'] 0)) := ((Ext.refl h).push _).push _
  have g1' : ((h.push (.cells [.int .i64 c1, .slice a l.length c] 0)).push (.cells [.int .i64 c2, .slice a2 m.length c2'] 0)).get h.next = .cells [.int .i64 c1, .slice a l.length c] 0 := by simp (maxSteps := 1000000) (disch := first | decide | omega | (simp only [go_sem]; first | done | omega)) only [go_sem, Int.reduceToNat, Nat.reduceMul, Nat.reduceAdd, Nat.reduceSub, ↓EU_region, ↓EU_draw]
  have g2' : ((h.push (.cells [.int .i64 c1, .slice a l.length c] 0)).push (.cells [.int .i64 c2, .slice a2 m.length c2'] 0)).get (h.next + 1) = .cells [.int .i64 c2, .slice a2 m.length c2'] 0 := by simp (maxSteps := 1000000) (disch := first | decide | omega | (simp only [go_sem]; first | done | omega)) only [go_sem, Int.reduceToNat, Nat.reduceMul, Nat.reduceAdd, Nat.reduceSub, ↓EU_region, ↓EU_draw]
  simp (maxSteps := 1000000) (disch := first | decide | omega | (simp only [go_sem]; first | done | omega)) only [go_sem, Int.reduceToNat, Nat.reduceMul, Nat.reduceAdd, Nat.reduceSub, ↓EU_region, ↓EU_draw]
  generalize ((h.push (.cells [.int .i64 c1, .slice a l.length c] 0)).push (.cells [.int .i64 c2, .slice a2 m.length c2'] 0)) = h1 at *
  ((repeat refine WPo_ob ?_); (first | refine WPo_cond (fun b1 => ?_) (fun b1 => ?_) | refine WPo_gard (fun b1 => ?_) (fun b1 => ?_) | refine WPo_gardT (fun b1 => ?_) (fun b1 => ?_)) <;> (try simp only [Bool.not_eq_true', Bool.not_eq_false'] at b1))
  · have b1' := b1
    simp only [decide_eq_true_eq] at b1'
    simp (maxSteps := 1000000) (disch := first | decide | omega | (simp only [go_sem]; first | done | omega)) only [go_sem, Int.reduceToNat, Nat.reduceMul, Nat.reduceAdd, Nat.reduceSub, ↓EU_region, ↓EU_draw, b1, g1', g2']
    ((repeat refine WPo_ob ?_); (first | refine WPo_cond (fun b2 => ?_) (fun b2 => ?_) | refine WPo_gard (fun b2 => ?_) (fun b2 => ?_) | refine WPo_gardT (fun b2 => ?_) (fun b2 => ?_)) <;> (try simp only [Bool.not_eq_true', Bool.not_eq_false'] at b2))
    · simp (maxSteps := 1000000) (disch := first | decide | omega | (simp only [go_sem]; first | done | omega)) only [go_sem, Int.reduceToNat, Nat.reduceMul, Nat.reduceAdd, Nat.reduceSub, ↓EU_region, ↓EU_draw, b2]
      simp only [decide_eq_false_iff_not] at b2
      refine ⟨?_, x0⟩
      rw [decide_eq_false (fun e => b2 (by rw [e]))]
    · have b2' := b2
      simp only [decide_eq_true_eq] at b2'
      simp (maxSteps := 1000000) (disch := first | decide | omega | (simp only [go_sem]; first | done | omega)) only [go_sem, Int.reduceToNat, Nat.reduceMul, Nat.reduceAdd, Nat.reduceSub, ↓EU_region, ↓EU_draw, b2]
      repeat refine WPo_ob ?_
      refine (LP_rule (fun k st => ∃ (i : Nat) (tm : Fr), st = ⟨tm, h1, []⟩ ∧ k = l.length - i ∧ i ≤ l.length ∧ Fr.get tm 2 = ptr h.next 0 ∧ Fr.get tm 3 = ptr (h.next + 1) 0 ∧ Fr.get tm 5 = .int .i64 i ∧ l.take i = m.take i)
        (fun q => ∃ tm, q.2 = ⟨tm, h1, []⟩ ∧ ((q.1 = .exit 0 ∧ l = m) ∨ (q.1 = .ret ∧ l ≠ m ∧ Fr.get tm 4 = .bool false))) ?_ l.length _ _ ?_ ?_).mono ?_
      · rintro k _ ⟨i, tm, rfl, rfl, hi, g2, g3, g5, ht1⟩
        simp (maxSteps := 1000000) (disch := first | decide | omega | (simp only [go_sem]; first | done | omega)) only [go_sem, Int.reduceToNat, Nat.reduceMul, Nat.reduceAdd, Nat.reduceSub, ↓EU_region, ↓EU_draw, g2, g3, g5, g1', g2']
        ((repeat refine WPo_ob ?_); (first | refine WPo_cond (fun b3 => ?_) (fun b3 => ?_) | refine WPo_gard (fun b3 => ?_) (fun b3 => ?_) | refine WPo_gardT (fun b3 => ?_) (fun b3 => ?_)) <;> (try simp only [Bool.not_eq_true', Bool.not_eq_false'] at b3))
        · have b3' := b3
          simp only [decide_eq_true_eq] at b3'
          have hi' : i < l.length := by omega
          obtain ⟨x, hx⟩ : ∃ x, l[i]? = some x := ⟨_, List.getElem?_eq_getElem hi'⟩
          obtain ⟨y, hy⟩ : ∃ y, m[i]? = some y := ⟨_, List.getElem?_eq_getElem (by omega)⟩
          obtain ⟨b, o, c', e, hb', hr, _⟩ := (hs.ext x0).at hx rfl
          cases e
          obtain ⟨b', o', c', e, hb'', hr', _⟩ := (ht.ext x0).at hy rfl
          cases e
          simp (maxSteps := 1000000) (disch := first | decide | omega | (simp only [go_sem]; first | done | omega)) only [go_sem, Int.reduceToNat, Nat.reduceMul, Nat.reduceAdd, Nat.reduceSub, ↓EU_region, ↓EU_draw, g2, g3, g5, g1', g2', hr, hr']
          ((repeat refine WPo_ob ?_); (first | refine WPo_cond (fun b4 => ?_) (fun b4 => ?_) | refine WPo_gard (fun b4 => ?_) (fun b4 => ?_) | refine WPo_gardT (fun b4 => ?_) (fun b4 => ?_)) <;> (try simp only [Bool.not_eq_true', Bool.not_eq_false'] at b4))
          · simp (maxSteps := 1000000) (disch := first | decide | omega | (simp only [go_sem]; first | done | omega)) only [go_sem, Int.reduceToNat, Nat.reduceMul, Nat.reduceAdd, Nat.reduceSub, ↓EU_region, ↓EU_draw, b4]
            refine ⟨_, rfl, .inr ⟨trivial, ?_, by simp (maxSteps := 1000000) (disch := first | decide | omega | (simp only [go_sem]; first | done | omega)) only [go_sem, Int.reduceToNat, Nat.reduceMul, Nat.reduceAdd, Nat.reduceSub, ↓EU_region, ↓EU_draw]⟩⟩
            intro e
            subst e
            rw [hx] at hy
            cases hy
            rw [(itemEq_iff x x).2 rfl] at b4
            cases b4
          · have e := (itemEq_iff x y).1 b4
            simp (maxSteps := 1000000) (disch := first | decide | omega | (simp only [go_sem]; first | done | omega)) only [go_sem, Int.reduceToNat, Nat.reduceMul, Nat.reduceAdd, Nat.reduceSub, ↓EU_region, ↓EU_draw, b4, g2, g3, g5]
            refine ⟨_, by omega, i + 1, _, rfl, rfl, by omega, by simp (maxSteps := 1000000) (disch := first | decide | omega | (simp only [go_sem]; first | done | omega)) only [go_sem, Int.reduceToNat, Nat.reduceMul, Nat.reduceAdd, Nat.reduceSub, ↓EU_region, ↓EU_draw, g2], by simp (maxSteps := 1000000) (disch := first | decide | omega | (simp only [go_sem]; first | done | omega)) only [go_sem, Int.reduceToNat, Nat.reduceMul, Nat.reduceAdd, Nat.reduceSub, ↓EU_region, ↓EU_draw, g3], by simp (maxSteps := 1000000) (disch := first | decide | omega | (simp only [go_sem]; first | done | omega)) only [go_sem, Int.reduceToNat, Nat.reduceMul, Nat.reduceAdd, Nat.reduceSub, ↓EU_region, ↓EU_draw], ?_⟩
            rw [List.take_add_one, List.take_add_one, ht1, hx, hy, e]
        · simp only [decide_eq_false_iff_not] at b3
          simp (maxSteps := 1000000) (disch := first | decide | omega | (simp only [go_sem]; first | done | omega)) only [go_sem, Int.reduceToNat, Nat.reduceMul, Nat.reduceAdd, Nat.reduceSub, ↓EU_region, ↓EU_draw]
          have : i = l.length := by omega
          subst this
          rw [List.take_length, List.take_of_length_le (by omega)] at ht1
          exact ⟨_, rfl, .inl ⟨trivial, ht1⟩⟩
      · exact ⟨0, _, rfl, rfl, by omega, by simp (maxSteps := 1000000) (disch := first | decide | omega | (simp only [go_sem]; first | done | omega)) only [go_sem, Int.reduceToNat, Nat.reduceMul, Nat.reduceAdd, Nat.reduceSub, ↓EU_region, ↓EU_draw], by simp (maxSteps := 1000000) (disch := first | decide | omega | (simp only [go_sem]; first | done | omega)) only [go_sem, Int.reduceToNat, Nat.reduceMul, Nat.reduceAdd, Nat.reduceSub, ↓EU_region, ↓EU_draw], by simp (maxSteps := 1000000) (disch := first | decide | omega | (simp only [go_sem]; first | done | omega)) only [go_sem, Int.reduceToNat, Nat.reduceMul, Nat.reduceAdd, Nat.reduceSub, ↓EU_region, ↓EU_draw]; rfl, by simp⟩
      · omega
      · rintro ⟨q, _⟩ ⟨tm, rfl, ⟨rfl, e1⟩ | ⟨rfl, e1, e2⟩⟩
        · simp (maxSteps := 1000000) (disch := first | decide | omega | (simp only [go_sem]; first | done | omega)) only [go_sem, Int.reduceToNat, Nat.reduceMul, Nat.reduceAdd, Nat.reduceSub, ↓EU_region, ↓EU_draw]
          exact ⟨by rw [decide_eq_true e1], x0⟩
        · simp (maxSteps := 1000000) (disch := first | decide | omega | (simp only [go_sem]; first | done | omega)) only [go_sem, Int.reduceToNat, Nat.reduceMul, Nat.reduceAdd, Nat.reduceSub, ↓EU_region, ↓EU_draw, e2]
          exact ⟨by rw [decide_eq_false e1], x0⟩
  · simp (maxSteps := 1000000) (disch := first | decide | omega | (simp only [go_sem]; first | done | omega)) only [go_sem, Int.reduceToNat, Nat.reduceMul, Nat.reduceAdd, Nat.reduceSub, ↓EU_region, ↓EU_draw, b1]
    exact ⟨trivial, x0⟩
theorem big_ev (l : List UInt8) (s : Value) (n : Int) (size : Nat) (h : Heap) (ho : OW byteE 1 h s l) (hz : size ≤ 8) (hl : l.length < 800000) :
    WPo (EF Tryz.prog O0 45 [s, .int .i64 n, .int .i64 size] h) fun q => OW byteE 1 q.2 q.1 (l ++ numB n size) ∧ Gr s h q.1 q.2 := by
  rw [EF_body (O := O0) (by kernel_rfl) Tryz.func45 rfl (rs := [.tmp 6]) rfl (bad := []) (by kernel_rfl) _ _ (m := 24) rfl]
  simp (maxSteps := 1000000) (disch := first | decide | omega | (simp only [go_sem]; first | done | omega)) only [go_sem, Int.reduceToNat, Nat.reduceMul, Nat.reduceAdd, Nat.reduceSub, ↓EU_region, ↓EU_draw]
  repeat refine WPo_ob ?_
  refine (LP_rule (fun m st => ∃ (i : Nat) (tm : Fr) (h1 : Heap) (v : Value), st = ⟨tm, h1, []⟩ ∧ m = i ∧ i ≤ size ∧ Fr.get tm 0 = v ∧ Fr.get tm 1 = .int .i64 n ∧ Fr.get tm 7 = .int .i64 ((i : Int) - 1) ∧ OW byteE 1 h1 v (l ++ (numB n size).take (size - i)) ∧ Gr s h v h1)
    (fun q => ∃ tm h1 v, q.2 = ⟨tm, h1, []⟩ ∧ q.1 = .exit 0 ∧ Fr.get tm 0 = v ∧ OW byteE 1 h1 v (l ++ numB n size) ∧ Gr s h v h1) ?_ size _ _ ?_ ?_).mono ?_
  · rintro m _ ⟨i, tm, h1, v, rfl, rfl, hi, g0, g1, g7, ho1, x1⟩
    simp (maxSteps := 1000000) (disch := first | decide | omega | (simp only [go_sem]; first | done | omega)) only [go_sem, Int.reduceToNat, Nat.reduceMul, Nat.reduceAdd, Nat.reduceSub, ↓EU_region, ↓EU_draw, g0, g1, g7]
    ((repeat refine WPo_ob ?_); (first | refine WPo_cond (fun b1 => ?_) (fun b1 => ?_) | refine WPo_gard (fun b1 => ?_) (fun b1 => ?_) | refine WPo_gardT (fun b1 => ?_) (fun b1 => ?_)) <;> (try simp only [Bool.not_eq_true', Bool.not_eq_false'] at b1))
    · have b1' := b1
      simp only [decide_eq_true_eq] at b1'
      have hb : (n / 2 ^ (8 * ((m : Int) - 1)).toNat) % 256 = ((byteI n (m - 1)).toNat : Int) := by
        rw [byteI_toNat]; congr 3; omega
      have hw : wrapF .u8 (n / 2 ^ (8 * ((m : Int) - 1)).toNat) = ((byteI n (m - 1)).toNat : Int) := hb
      have hu : wrapF .u64 (8 * ((m : Int) - 1)) = 8 * ((m : Int) - 1) := by
        apply wrapU rfl
        constructor
        · omega
        · show 8 * ((m : Int) - 1) < 18446744073709551616
          omega
      have hnx : (numB n size).take (size - (m - 1)) = (numB n size).take (size - m) ++ [byteI n (m - 1)] := by
        rw [show size - (m - 1) = size - m + 1 by omega, List.take_add_one, numB_at n size (size - m) (by omega)]
        rw [show size - 1 - (size - m) = m - 1 by omega]; rfl
      simp (maxSteps := 1000000) (disch := first | decide | omega | (simp only [go_sem]; first | done | omega)) only [go_sem, Int.reduceToNat, Nat.reduceMul, Nat.reduceAdd, Nat.reduceSub, ↓EU_region, ↓EU_draw, g0, g1, g7, hu, bin_shr64, hw]
      repeat refine WPo_ob ?_
      refine append_gr (l := l ++ (numB n size).take (size - m)) (l' := [byteI n (m - 1)]) fc_ap_37_37 (fun _ => rfl) (by decide) byteE_scal (ho1.ext ((Ext.refl h1).push _)) (OW.lit byteE_len h1 [byteI n (m - 1)]).sl (by simp; omega) (by simp; omega) fun v' h2 ho2 x2 => ?_
      rw [List.append_assoc, ← hnx] at ho2
      simp (maxSteps := 1000000) (disch := first | decide | omega | (simp only [go_sem]; first | done | omega)) only [go_sem, Int.reduceToNat, Nat.reduceMul, Nat.reduceAdd, Nat.reduceSub, ↓EU_region, ↓EU_draw, g7]
      exact ⟨m - 1, by omega, m - 1, _, _, v', rfl, rfl, by omega, by simp (maxSteps := 1000000) (disch := first | decide | omega | (simp only [go_sem]; first | done | omega)) only [go_sem, Int.reduceToNat, Nat.reduceMul, Nat.reduceAdd, Nat.reduceSub, ↓EU_region, ↓EU_draw], by simp (maxSteps := 1000000) (disch := first | decide | omega | (simp only [go_sem]; first | done | omega)) only [go_sem, Int.reduceToNat, Nat.reduceMul, Nat.reduceAdd, Nat.reduceSub, ↓EU_region, ↓EU_draw, g1], by simp (maxSteps := 1000000) (disch := first | decide | omega | (simp only [go_sem]; first | done | omega)) only [go_sem, Int.reduceToNat, Nat.reduceMul, Nat.reduceAdd, Nat.reduceSub, ↓EU_region, ↓EU_draw]; congr 1; omega, ho2, (x1.push _).trans x2⟩
    · simp only [decide_eq_false_iff_not] at b1
      have : m = 0 := by omega
      subst this
      rw [Nat.sub_zero, List.take_of_length_le (by rw [numB_len]; omega)] at ho1
      simp (maxSteps := 1000000) (disch := first | decide | omega | (simp only [go_sem]; first | done | omega)) only [go_sem, Int.reduceToNat, Nat.reduceMul, Nat.reduceAdd, Nat.reduceSub, ↓EU_region, ↓EU_draw]
      exact ⟨_, _, v, rfl, trivial, by simp (maxSteps := 1000000) (disch := first | decide | omega | (simp only [go_sem]; first | done | omega)) only [go_sem, Int.reduceToNat, Nat.reduceMul, Nat.reduceAdd, Nat.reduceSub, ↓EU_region, ↓EU_draw, g0], ho1, x1⟩
  · refine ⟨size, _, _, s, rfl, rfl, Nat.le_refl _, by simp (maxSteps := 1000000) (disch := first | decide | omega | (simp only [go_sem]; first | done | omega)) only [go_sem, Int.reduceToNat, Nat.reduceMul, Nat.reduceAdd, Nat.reduceSub, ↓EU_region, ↓EU_draw], by simp (maxSteps := 1000000) (disch := first | decide | omega | (simp only [go_sem]; first | done | omega)) only [go_sem, Int.reduceToNat, Nat.reduceMul, Nat.reduceAdd, Nat.reduceSub, ↓EU_region, ↓EU_draw], by simp (maxSteps := 1000000) (disch := first | decide | omega | (simp only [go_sem]; first | done | omega)) only [go_sem, Int.reduceToNat, Nat.reduceMul, Nat.reduceAdd, Nat.reduceSub, ↓EU_region, ↓EU_draw], ?_, Gr.refl _ _⟩
    rw [Nat.sub_self, List.take_zero, List.append_nil]; exact ho
  · omega
  · rintro ⟨q, _⟩ ⟨tm, h1, v, rfl, rfl, g0, ho1, x1⟩
    simp (maxSteps := 1000000) (disch := first | decide | omega | (simp only [go_sem]; first | done | omega)) only [go_sem, Int.reduceToNat, Nat.reduceMul, Nat.reduceAdd, Nat.reduceSub, ↓EU_region, ↓EU_draw, g0]
    exact ⟨ho1, x1⟩
theorem got_ev (l : List UInt8) (s : Value) (m : Nat) (h : Heap) (hs : SL byteE 1 h s l) (hm : m ≤ l.length) (h8 : m ≤ 8) (hl : l.length < 900000) :
    EF Tryz.prog O0 48 [s, .int .i64 m] h = some (.int .i64 (readN (l.take m)), h) := by
  have : WPo (EF Tryz.prog O0 48 [s, .int .i64 m] h) fun q => q = (.int .i64 (readN (l.take m)), h) := by
    rw [EF_body (O := O0) (by kernel_rfl) Tryz.func48 rfl (rs := [.tmp 4]) rfl (bad := []) (by kernel_rfl) _ _ (m := 21) rfl]
    obtain ⟨a, c, hv⟩ := hs.val
    subst hv
    have hlen : (l.take m).length = m := by rw [List.length_take]; omega
    simp (maxSteps := 1000000) (disch := first | decide | omega | (simp only [go_sem]; first | done | omega)) only [go_sem, Int.reduceToNat, Nat.reduceMul, Nat.reduceAdd, Nat.reduceSub, ↓EU_region, ↓EU_draw]
    repeat refine WPo_ob ?_
    refine (LP_rule (fun k st => ∃ (i : Nat) (tm : Fr), st = ⟨tm, h, []⟩ ∧ k = m - i ∧ i ≤ m ∧ Fr.get tm 0 = .slice a l.length c ∧ Fr.get tm 1 = .int .i64 m ∧ Fr.get tm 6 = .int .i64 i ∧ Fr.get tm 5 = .int .i64 (readN ((l.take m).take i)))
      (fun q => ∃ tm, q.2 = ⟨tm, h, []⟩ ∧ q.1 = .exit 0 ∧ Fr.get tm 5 = .int .i64 (readN (l.take m))) ?_ m _ _ ?_ ?_).mono ?_
    · rintro k _ ⟨i, tm, rfl, rfl, hi, g0, g1, g6, g5⟩
      simp (maxSteps := 1000000) (disch := first | decide | omega | (simp only [go_sem]; first | done | omega)) only [go_sem, Int.reduceToNat, Nat.reduceMul, Nat.reduceAdd, Nat.reduceSub, ↓EU_region, ↓EU_draw, g0, g1, g6]
      ((repeat refine WPo_ob ?_); (first | refine WPo_cond (fun b1 => ?_) (fun b1 => ?_) | refine WPo_gard (fun b1 => ?_) (fun b1 => ?_) | refine WPo_gardT (fun b1 => ?_) (fun b1 => ?_)) <;> (try simp only [Bool.not_eq_true', Bool.not_eq_false'] at b1))
      · simp only [decide_eq_true_eq] at b1
        have hi' : i < m := by omega
        obtain ⟨x, hx⟩ : ∃ x, l[i]? = some x := ⟨_, List.getElem?_eq_getElem (by omega)⟩
        have hx' : (l.take m)[i]? = some x := by rw [List.getElem?_take_of_lt hi']; exact hx
        obtain ⟨b, o, c', e, hb', _, hr⟩ := hs.at hx rfl
        cases e
        have hr0 := hr 0 _ rfl
        rw [add_z] at hr0
        have hxl := x.toNat_lt
        have hbe := beN_lt ((l.take m).take i)
        have hp : 256 ^ ((l.take m).take i).length ≤ 256 ^ 7 := Nat.pow_le_pow_right (by decide) (by rw [List.length_take]; omega)
        have hbe' : beN ((l.take m).take i) < 72057594037927936 := Nat.lt_of_lt_of_le hbe hp
        have hrd : readN ((l.take m).take i) = (beN ((l.take m).take i) : Int) := by
          unfold readN sgn64
          rw [if_pos (by omega)]
        have hrd2 : readN ((l.take m).take (i + 1)) = sgn64 (beN ((l.take m).take i) * 256 + x.toNat) := by
          unfold readN
          rw [List.take_add_one, hx']
          exact congrArg sgn64 (beN_snoc _ _)
        have hw : wrapF .i64 (x.toNat : Int) = (x.toNat : Int) := wrap64 (by omega)
        rw [hrd] at g5
        have hor := bin_or64 Tryz.prog 2 (.tmp 13) (.tmp 18) (beN ((l.take m).take i)) x hbe'
        rw [show (256 : Int) = 2 ^ 8 from rfl] at hor
        simp (maxSteps := 1000000) (disch := first | decide | omega | (simp only [go_sem]; first | done | omega)) only [go_sem, Int.reduceToNat, Nat.reduceMul, Nat.reduceAdd, Nat.reduceSub, ↓EU_region, ↓EU_draw, g0, g1, g6, g5, hr0, bin_shl64, hw, hor]
        exact ⟨_, by omega, i + 1, _, rfl, rfl, by omega, by simp (maxSteps := 1000000) (disch := first | decide | omega | (simp only [go_sem]; first | done | omega)) only [go_sem, Int.reduceToNat, Nat.reduceMul, Nat.reduceAdd, Nat.reduceSub, ↓EU_region, ↓EU_draw, g0], by simp (maxSteps := 1000000) (disch := first | decide | omega | (simp only [go_sem]; first | done | omega)) only [go_sem, Int.reduceToNat, Nat.reduceMul, Nat.reduceAdd, Nat.reduceSub, ↓EU_region, ↓EU_draw, g1], by simp (maxSteps := 1000000) (disch := first | decide | omega | (simp only [go_sem]; first | done | omega)) only [go_sem, Int.reduceToNat, Nat.reduceMul, Nat.reduceAdd, Nat.reduceSub, ↓EU_region, ↓EU_draw], by simp (maxSteps := 1000000) (disch := first | decide | omega | (simp only [go_sem]; first | done | omega)) only [go_sem, Int.reduceToNat, Nat.reduceMul, Nat.reduceAdd, Nat.reduceSub, ↓EU_region, ↓EU_draw]; rw [hrd2]⟩
      · simp only [decide_eq_false_iff_not] at b1
        have : i = m := by omega
        subst this
        rw [List.take_of_length_le (by omega)] at g5
        simp (maxSteps := 1000000) (disch := first | decide | omega | (simp only [go_sem]; first | done | omega)) only [go_sem, Int.reduceToNat, Nat.reduceMul, Nat.reduceAdd, Nat.reduceSub, ↓EU_region, ↓EU_draw]
        exact ⟨_, rfl, trivial, by simp (maxSteps := 1000000) (disch := first | decide | omega | (simp only [go_sem]; first | done | omega)) only [go_sem, Int.reduceToNat, Nat.reduceMul, Nat.reduceAdd, Nat.reduceSub, ↓EU_region, ↓EU_draw, g5]⟩
    · exact ⟨0, _, rfl, rfl, by omega, by simp (maxSteps := 1000000) (disch := first | decide | omega | (simp only [go_sem]; first | done | omega)) only [go_sem, Int.reduceToNat, Nat.reduceMul, Nat.reduceAdd, Nat.reduceSub, ↓EU_region, ↓EU_draw], by simp (maxSteps := 1000000) (disch := first | decide | omega | (simp only [go_sem]; first | done | omega)) only [go_sem, Int.reduceToNat, Nat.reduceMul, Nat.reduceAdd, Nat.reduceSub, ↓EU_region, ↓EU_draw], by simp (maxSteps := 1000000) (disch := first | decide | omega | (simp only [go_sem]; first | done | omega)) only [go_sem, Int.reduceToNat, Nat.reduceMul, Nat.reduceAdd, Nat.reduceSub, ↓EU_region, ↓EU_draw]; rfl, by simp (maxSteps := 1000000) (disch := first | decide | omega | (simp only [go_sem]; first | done | omega)) only [go_sem, Int.reduceToNat, Nat.reduceMul, Nat.reduceAdd, Nat.reduceSub, ↓EU_region, ↓EU_draw]; rfl⟩
    · omega
    · rintro ⟨q, _⟩ ⟨tm, rfl, rfl, g5⟩
      simp (maxSteps := 1000000) (disch := first | decide | omega | (simp only [go_sem]; first | done | omega)) only [go_sem, Int.reduceToNat, Nat.reduceMul, Nat.reduceAdd, Nat.reduceSub, ↓EU_region, ↓EU_draw, g5]
  obtain ⟨q, e, rfl⟩ := this
  exact e
end Go.Proofs.YtddgcakiceodgaaGreat.EV
