/- The reference's numbers of any size: Turn, Fits, Sum; whole's Sub, Mul, Sum. No condition. -/
import Derived.Test.YtoomhlfogeglcaaBig5
namespace Go.Proofs.Ytoomhlfogeglcaa.EV
open Go Go.Proofs
set_option linter.unusedVariables false
set_option linter.unusedSimpArgs false
set_option maxRecDepth 100000
set_option pp.deepTerms false
set_option pp.deepTerms.threshold 20
noncomputable def fitB (x : Int) : Bool := decide (-9223372036854775808 ≤ x ∧ x < 9223372036854775808)
noncomputable def fitV (x : Int) : Int := if -9223372036854775808 ≤ x ∧ x < 9223372036854775808 then x else 0
noncomputable def fitT (x : Int) : Value := .tuple ⟨[.int .i64 (fitV x), .bool (fitB x)]⟩
noncomputable def sumZ (l : List Int) : Int := l.foldl (· + ·) 0
theorem sumZ_take (l : List Int) {i : Nat} {x : Int} (h : l[i]? = some x) : sumZ (l.take (i + 1)) = sumZ (l.take i) + x := by
  unfold sumZ
  rw [List.take_add_one, h, List.foldl_append]; rfl
theorem sumZ_range {l : List Int} (hw : ∀ z ∈ l, -9223372036854775808 ≤ z ∧ z < 9223372036854775808) : ∀ i : Nat, i ≤ l.length → -9223372036854775808 * (i : Int) ≤ sumZ (l.take i) ∧ sumZ (l.take i) ≤ 9223372036854775808 * (i : Int)
  | 0, _ => by rw [List.take_zero]; exact ⟨by decide, by decide⟩
  | i + 1, hi => by
    have ih := sumZ_range hw i (by omega)
    have hx : l[i]? = some l[i] := List.getElem?_eq_getElem hi
    have hz := hw _ (List.mem_of_getElem? hx)
    rw [sumZ_take l hx]
    omega
theorem val_drop_le {a : List Int} (ha : dig a) (i : Nat) : 0 ≤ val (a.drop i) ∧ val (a.drop i) ≤ val a := by
  have h1 := val_split a i
  have h2 := val_take_range ha i
  have h3 := val_range (dig_drop i ha)
  have h4 := Int.mul_le_mul_of_nonneg_right (show 1 ≤ pw i by have := pw_pos i; omega) h3.1
  omega
theorem rfits_ev (n : Bool) (a : List Int) (s : Value) (h : Heap) (hs : SL (intE .i64) 1 h s a) (ha : dig a) (hla : a.length ≤ 30) :
    Pu (EF Try.prog O0 35 [bigV n s] h) h (fitT (sv n a)) := by
  unfold Pu
  unfold bigV fitT
  obtain ⟨sa, sc, rfl⟩ := hs.val
  rw [EF_body (O := O0) (by kernel_rfl) Try.func35 rfl (rs := [.tmp 2, .tmp 3]) rfl (bad := []) (by kernel_rfl) _ _ (m := 41) rfl]
  simp (maxSteps := 1000000) (disch := first | decide | omega | (simp only [go_sem]; first | done | omega)) only [go_sem, Int.reduceToNat, Nat.reduceMul, Nat.reduceAdd, Nat.reduceSub, ↓EU_region, ↓EU_draw]
  repeat refine WPo_ob ?_
  have x0 : Ext h (h.push (.cells [.bool n, .slice sa a.length sc] 0)) := (Ext.refl h).push _
  refine (rof_ev (-9223372036854775808) _ (by decide)).mono ?_
  rintro ⟨v, h1⟩ ⟨n1, l1, s1, rfl, o1, d1, k1, e1, x1⟩
  simp only at o1 x1
  unfold bigV
  obtain ⟨p1, q1, rfl⟩ := o1.val
  simp (maxSteps := 1000000) (disch := first | decide | omega | (simp only [go_sem]; first | done | omega)) only [go_sem, Int.reduceToNat, Nat.reduceMul, Nat.reduceAdd, Nat.reduceSub, ↓EU_region, ↓EU_draw]
  repeat refine WPo_ob ?_
  refine (rof_ev 9223372036854775807 _ (by decide)).mono ?_
  rintro ⟨v, h2⟩ ⟨n2, l2, s2, rfl, o2, d2, k2, e2, x2⟩
  simp only at o2 x2
  try unfold bigV
  obtain ⟨p2, q2, rfl⟩ := o2.val
  have hn1 := x1.le
  have hn2 := x2.le
  rw [next_push] at hn1
  have c1 : h2.get h.next = .cells [.bool n, .slice sa a.length sc] 0 := by rw [(x1.trans x2).old _ (by rw [next_push]; omega)]; exact get_push_new _ _
  simp (maxSteps := 1000000) (disch := first | decide | omega | (simp only [go_sem]; first | done | omega)) only [go_sem, Int.reduceToNat, Nat.reduceMul, Nat.reduceAdd, Nat.reduceSub, ↓EU_region, ↓EU_draw]
  obtain ⟨h3, hh3⟩ : ∃ z, (((h2.push (.cells [.bool false, .slice none 0 1] 0)).push (.cells [.bool false, .slice none 0 1] 0)).set h2.next (.cells [.bool n1, .slice p1 l1.length q1] 0)).set (h2.next + 1) (.cells [.bool n2, .slice p2 l2.length q2] 0) = z := ⟨_, rfl⟩
  rw [hh3]
  have x3 : Ext h2 h3 := by rw [← hh3]; repeat (first | exact Ext.refl _ | assumption | refine Ext.push ?_ _ | refine Ext.set ?_ _ _ (by first | omega | (simp only [next_push, next_set]; omega)))
  have b1 : h3.get h2.next = .cells [.bool n1, .slice p1 l1.length q1] 0 := by rw [← hh3]; simp (maxSteps := 1000000) (disch := first | decide | omega | (simp only [go_sem]; first | done | omega)) only [go_sem, Int.reduceToNat, Nat.reduceMul, Nat.reduceAdd, Nat.reduceSub, ↓EU_region, ↓EU_draw]
  have b2 : h3.get (h2.next + 1) = .cells [.bool n2, .slice p2 l2.length q2] 0 := by rw [← hh3]; simp (maxSteps := 1000000) (disch := first | decide | omega | (simp only [go_sem]; first | done | omega)) only [go_sem, Int.reduceToNat, Nat.reduceMul, Nat.reduceAdd, Nat.reduceSub, ↓EU_region, ↓EU_draw]
  have b0 : h3.get h.next = .cells [.bool n, .slice sa a.length sc] 0 := by rw [x3.old _ (by omega)]; exact c1
  have hn3 : h3.next = h2.next + 2 := by rw [← hh3]; simp (maxSteps := 1000000) (disch := first | decide | omega | (simp only [go_sem]; first | done | omega)) only [go_sem, Int.reduceToNat, Nat.reduceMul, Nat.reduceAdd, Nat.reduceSub, ↓EU_region, ↓EU_draw]
  have y3 : Ext h h3 := x0.trans ((x1.trans x2).trans x3)
  have cA := rcmp_ev n n1 a l1 _ _ h3 (hs.ext y3) (o1.ext (x2.trans x3)) ha d1 (by omega) (by omega)
  rw [e1] at cA
  unfold bigV at cA
  generalize hx : sv n a = x at *
  have hva := (val_range ha).1
  by_cases q1' : x < -9223372036854775808
  · have dq : decide (sgnC x (-9223372036854775808) < 0) = true := decide_eq_true (by unfold sgnC; rw [if_pos q1']; decide)
    simp (maxSteps := 1000000) (disch := first | decide | omega | (simp only [go_sem]; first | done | omega)) only [go_sem, Int.reduceToNat, Nat.reduceMul, Nat.reduceAdd, Nat.reduceSub, ↓EU_region, ↓EU_draw, b0, b1, c1]
    repeat refine WPo_ob ?_
    refine cA.bind fun h4 x4 => ?_
    unfold fitV fitB
    rw [if_neg (by omega), decide_eq_false (by omega)]
    simp (maxSteps := 1000000) (disch := first | decide | omega | (simp only [go_sem]; first | done | omega)) only [go_sem, Int.reduceToNat, Nat.reduceMul, Nat.reduceAdd, Nat.reduceSub, ↓EU_region, ↓EU_draw, dq]
    exact ⟨trivial, y3.trans x4⟩
  · have dq : decide (sgnC x (-9223372036854775808) < 0) = false := decide_eq_false (by unfold sgnC; rw [if_neg q1']; split <;> omega)
    simp (maxSteps := 1000000) (disch := first | decide | omega | (simp only [go_sem]; first | done | omega)) only [go_sem, Int.reduceToNat, Nat.reduceMul, Nat.reduceAdd, Nat.reduceSub, ↓EU_region, ↓EU_draw, b0, b1, c1]
    repeat refine WPo_ob ?_
    refine cA.bind fun h4 x4 => ?_
    have hn4 := x4.le
    have b0' := b0
    have b2' := b2
    rw [← x4.old _ (by omega)] at b0' b2'
    have cB := rcmp_ev n n2 a l2 _ _ h4 (hs.ext (y3.trans x4)) ((o2.ext x3).ext x4) ha d2 (by omega) (by omega)
    rw [e2, hx] at cB
    unfold bigV at cB
    simp (maxSteps := 1000000) (disch := first | decide | omega | (simp only [go_sem]; first | done | omega)) only [go_sem, Int.reduceToNat, Nat.reduceMul, Nat.reduceAdd, Nat.reduceSub, ↓EU_region, ↓EU_draw, dq, b0', b2']
    repeat refine WPo_ob ?_
    refine cB.bind fun h5 x5 => ?_
    have hn5 := x5.le
    have b0'' := b0'
    rw [← x5.old _ (by omega)] at b0''
    have y5 : Ext h h5 := (y3.trans x4).trans x5
    by_cases q2' : 9223372036854775807 < x
    · have dq2 : decide (0 < sgnC x 9223372036854775807) = true := decide_eq_true (by unfold sgnC; rw [if_neg (by omega), if_pos q2']; decide)
      unfold fitV fitB
      rw [if_neg (by omega), decide_eq_false (by omega)]
      simp (maxSteps := 1000000) (disch := first | decide | omega | (simp only [go_sem]; first | done | omega)) only [go_sem, Int.reduceToNat, Nat.reduceMul, Nat.reduceAdd, Nat.reduceSub, ↓EU_region, ↓EU_draw, dq, dq2]
      exact ⟨trivial, y5⟩
    · have dq2 : decide (0 < sgnC x 9223372036854775807) = false := decide_eq_false (by unfold sgnC; split <;> (try split) <;> omega)
      unfold fitV fitB
      rw [if_pos (by omega), decide_eq_true (by omega)]
      have hv63 : val a ≤ 9223372036854775808 := by
        unfold sv at hx
        split at hx <;> omega
      have eat := fun (i : Nat) => rat_ev a (.slice sa a.length sc) i h5 (hs.ext y5) (by omega)
      have w4 : val (a.drop 4) = 0 := by
        have h1 := val_split a 4
        have h2 := val_take_range ha 4
        have h3 := val_range (dig_drop 4 ha)
        have p4 : pw 4 = 18446744073709551616 := rfl
        rw [p4] at h1
        omega
      have hfin : ∀ y, (y = if n then -val (a.drop 0) else val (a.drop 0)) → y = x := fun y hy => by
        rw [hy, List.drop_zero, ← hx]; unfold sv; cases n <;> rfl
      simp (maxSteps := 1000000) (disch := first | decide | omega | (simp only [go_sem]; first | done | omega)) only [go_sem, Int.reduceToNat, Nat.reduceMul, Nat.reduceAdd, Nat.reduceSub, ↓EU_region, ↓EU_draw, dq, dq2]
      repeat refine WPo_ob ?_
      refine (LP_rule (fun m st => ∃ (i : Nat) (tm : Fr), st = ⟨tm, h5, []⟩ ∧ m = i ∧ i ≤ 4 ∧ Fr.get tm 1 = ptr h.next 0 ∧ Fr.get tm 6 = .int .i64 (if n then -val (a.drop i) else val (a.drop i)) ∧ Fr.get tm 7 = .int .i64 ((i : Int) - 1))
        (fun q => ∃ tm, q.2 = ⟨tm, h5, []⟩ ∧ q.1 = .exit 0 ∧ Fr.get tm 6 = .int .i64 (if n then -val (a.drop 0) else val (a.drop 0))) ?_ 4 _ _ ?_ ?_).mono ?_
      · rintro m _ ⟨i, tm, rfl, rfl, hi, g1, g6, g7⟩
        cases m with
        | zero =>
          have d1' : decide (0 ≤ ((0 : Nat) : Int) - 1) = false := by decide
          simp (maxSteps := 1000000) (disch := first | decide | omega | (simp only [go_sem]; first | done | omega)) only [go_sem, Int.reduceToNat, Nat.reduceMul, Nat.reduceAdd, Nat.reduceSub, ↓EU_region, ↓EU_draw, g1, g6, g7, d1']
          exact ⟨_, rfl, trivial, by simp (maxSteps := 1000000) (disch := first | decide | omega | (simp only [go_sem]; first | done | omega)) only [go_sem, Int.reduceToNat, Nat.reduceMul, Nat.reduceAdd, Nat.reduceSub, ↓EU_region, ↓EU_draw, g6]⟩
        | succ i =>
          have d1' : decide (0 ≤ ((i + 1 : Nat) : Int) - 1) = true := decide_eq_true (by omega)
          have ei : ((i + 1 : Nat) : Int) - 1 = (i : Int) := by omega
          rw [ei] at g7 d1'
          have va := val_drop a i
          have vb := val_drop_le ha i
          have vc := val_drop_le ha (i + 1)
          have vd := dig_at ha i
          have hwi : wrapF .i64 ((i : Int) - 1) = (i : Int) - 1 := wrap64 (by omega)
          have eat' := eat i
          obtain ⟨W, eW⟩ : ∃ z, val (a.drop (i + 1)) = z := ⟨_, rfl⟩
          obtain ⟨dd, edd⟩ : ∃ z, a.getD i 0 = z := ⟨_, rfl⟩
          rw [eW] at va vc g6
          rw [edd] at va vd eat'
          cases n with
          | true =>
            rw [if_pos rfl] at g6
            have hx' : -val a = x := by rw [← hx]; rfl
            have w1 : wrapF .i64 (-W * 65536) = -W * 65536 := wrap64 (by omega)
            have w2 : wrapF .i64 (-W * 65536 - dd) = -val (a.drop i) := by rw [wrap64 (by omega)]; omega
            simp (maxSteps := 1000000) (disch := first | decide | omega | (simp only [go_sem]; first | done | omega)) only [go_sem, Int.reduceToNat, Nat.reduceMul, Nat.reduceAdd, Nat.reduceSub, ↓EU_region, ↓EU_draw, g1, g6, g7, d1', b0'', eat', w1, w2, hwi]
            exact ⟨i, by omega, i, _, rfl, rfl, by omega, by simp (maxSteps := 1000000) (disch := first | decide | omega | (simp only [go_sem]; first | done | omega)) only [go_sem, Int.reduceToNat, Nat.reduceMul, Nat.reduceAdd, Nat.reduceSub, ↓EU_region, ↓EU_draw, g1], by simp only [if_true]; simp (maxSteps := 1000000) (disch := first | decide | omega | (simp only [go_sem]; first | done | omega)) only [go_sem, Int.reduceToNat, Nat.reduceMul, Nat.reduceAdd, Nat.reduceSub, ↓EU_region, ↓EU_draw], by simp (maxSteps := 1000000) (disch := first | decide | omega | (simp only [go_sem]; first | done | omega)) only [go_sem, Int.reduceToNat, Nat.reduceMul, Nat.reduceAdd, Nat.reduceSub, ↓EU_region, ↓EU_draw]⟩
          | false =>
            rw [if_neg (by decide)] at g6
            have hx' : val a = x := by rw [← hx]; rfl
            have w1 : wrapF .i64 (W * 65536) = W * 65536 := wrap64 (by omega)
            have w2 : wrapF .i64 (W * 65536 + dd) = val (a.drop i) := by rw [wrap64 (by omega)]; omega
            simp (maxSteps := 1000000) (disch := first | decide | omega | (simp only [go_sem]; first | done | omega)) only [go_sem, Int.reduceToNat, Nat.reduceMul, Nat.reduceAdd, Nat.reduceSub, ↓EU_region, ↓EU_draw, g1, g6, g7, d1', b0'', eat', w1, w2, hwi]
            exact ⟨i, by omega, i, _, rfl, rfl, by omega, by simp (maxSteps := 1000000) (disch := first | decide | omega | (simp only [go_sem]; first | done | omega)) only [go_sem, Int.reduceToNat, Nat.reduceMul, Nat.reduceAdd, Nat.reduceSub, ↓EU_region, ↓EU_draw, g1], by simp only [Bool.false_eq_true, if_false]; simp (maxSteps := 1000000) (disch := first | decide | omega | (simp only [go_sem]; first | done | omega)) only [go_sem, Int.reduceToNat, Nat.reduceMul, Nat.reduceAdd, Nat.reduceSub, ↓EU_region, ↓EU_draw], by simp (maxSteps := 1000000) (disch := first | decide | omega | (simp only [go_sem]; first | done | omega)) only [go_sem, Int.reduceToNat, Nat.reduceMul, Nat.reduceAdd, Nat.reduceSub, ↓EU_region, ↓EU_draw]⟩
      · refine ⟨4, _, rfl, rfl, by decide, by simp (maxSteps := 1000000) (disch := first | decide | omega | (simp only [go_sem]; first | done | omega)) only [go_sem, Int.reduceToNat, Nat.reduceMul, Nat.reduceAdd, Nat.reduceSub, ↓EU_region, ↓EU_draw], ?_, by simp (maxSteps := 1000000) (disch := first | decide | omega | (simp only [go_sem]; first | done | omega)) only [go_sem, Int.reduceToNat, Nat.reduceMul, Nat.reduceAdd, Nat.reduceSub, ↓EU_region, ↓EU_draw]; rfl⟩
        rw [w4]
        simp (maxSteps := 1000000) (disch := first | decide | omega | (simp only [go_sem]; first | done | omega)) only [go_sem, Int.reduceToNat, Nat.reduceMul, Nat.reduceAdd, Nat.reduceSub, ↓EU_region, ↓EU_draw]
        cases n <;> rfl
      · decide
      · rintro ⟨_, _⟩ ⟨tm, rfl, rfl, g6⟩
        rw [hfin _ rfl] at g6
        simp (maxSteps := 1000000) (disch := first | decide | omega | (simp only [go_sem]; first | done | omega)) only [go_sem, Int.reduceToNat, Nat.reduceMul, Nat.reduceAdd, Nat.reduceSub, ↓EU_region, ↓EU_draw, g6]
        exact ⟨trivial, y5⟩
end Go.Proofs.Ytoomhlfogeglcaa.EV
