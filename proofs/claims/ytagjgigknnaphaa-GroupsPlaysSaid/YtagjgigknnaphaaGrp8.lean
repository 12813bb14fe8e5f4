/- Contracts: groups: All; the law's ints. No condition. -/
import Derived.Test.YtagjgigknnaphaaGrp7
namespace Go.Proofs.Ytagjgigknnaphaa.EV
open Go Go.Proofs
set_option linter.unusedVariables false
set_option linter.unusedSimpArgs false
set_option maxRecDepth 100000
set_option pp.deepTerms false
set_option pp.deepTerms.threshold 20
noncomputable def allN (gl : List Gp) : Nat → List Int
  | 0 => []
  | n + 1 => allN gl n ++ (if hasB gl n then [(n : Int)] else [])
theorem allN_has (gl : List Gp) : ∀ n x, x ∈ allN gl n → hasB gl x = true
  | 0, x, h => by cases h
  | n + 1, x, h => by
    unfold allN at h
    rcases List.mem_append.1 h with h | h
    · exact allN_has gl n x h
    · cases hb : hasB gl n with
      | true =>
        rw [hb, if_pos rfl] at h
        rw [List.mem_singleton.1 h]; exact hb
      | false =>
        rw [hb, if_neg (by decide)] at h
        cases h
theorem allN_len (gl : List Gp) : ∀ n, (allN gl n).length ≤ n
  | 0 => Nat.le_refl _
  | n + 1 => by
    have := allN_len gl n
    unfold allN
    rw [List.length_append]
    split
    · simp; omega
    · simp; omega
theorem allN_zero {gl : List Gp} (h : hasB gl 0 = true) : ∀ n, ∃ m, allN gl (n + 1) = 0 :: m
  | 0 => ⟨[], by unfold allN; rw [show ((0 : Nat) : Int) = 0 from rfl, h, if_pos rfl]; rfl⟩
  | n + 1 => by
    obtain ⟨m, e⟩ := allN_zero h n
    unfold allN
    rw [e]
    exact ⟨_, rfl⟩
set_option maxHeartbeats 1000000 in
theorem all_ev (gl : List Gp) (B : Nat) (h : Heap) (g : GR h B gl) :
    WPo (EF Try.prog O0 12 [ptr B 0] h) fun q => OW (intE .i64) 1 q.2 q.1 (allN gl 16) ∧ Fresh h.next q.1 ∧ Ext h q.2 := by
  rw [EF_body (O := O0) (by kernel_rfl) Try.func12 rfl (rs := [.tmp 2]) rfl (bad := []) (by kernel_rfl) _ _ (m := 17) rfl]
  simp (maxSteps := 1000000) (disch := first | decide | omega | (simp only [go_sem]; first | done | omega)) only [go_sem, Int.reduceToNat, Nat.reduceMul, Nat.reduceAdd, Nat.reduceSub, ↓EU_region, ↓EU_draw]
  repeat refine WPo_ob ?_
  refine (LP_rule (fun m st => ∃ (i : Nat) (tm : Fr) (h' : Heap) (v : Value), st = ⟨tm, h', []⟩ ∧ m = 16 - i ∧ i ≤ 16 ∧ Fr.get tm 0 = ptr B 0 ∧ Fr.get tm 3 = v ∧ Fr.get tm 5 = .int .i64 i ∧ OW (intE .i64) 1 h' v (allN gl i) ∧ Fresh h.next v ∧ Ext h h')
    (fun q => ∃ (tm : Fr) (h' : Heap) (v : Value), q.2 = ⟨tm, h', []⟩ ∧ q.1 = .exit 0 ∧ Fr.get tm 3 = v ∧ OW (intE .i64) 1 h' v (allN gl 16) ∧ Fresh h.next v ∧ Ext h h') ?_ 16 _ _ ?_ ?_).mono ?_
  · rintro m _ ⟨i, tm, h', v, rfl, rfl, hi, g0, g3, g5, ov, fv, x'⟩
    by_cases q : i < 16
    · have d1 : decide ((i : Int) < 16) = true := decide_eq_true (by omega)
      have hh := has_ev gl B i h' (g.ext x')
      have hwi : wrapF .i64 ((i : Int) + 1) = ((i + 1 : Nat) : Int) := by rw [wrap64 (by omega)]; rfl
      have hln := allN_len gl i
      have hnx : allN gl (i + 1) = allN gl i ++ (if hasB gl i then [(i : Int)] else []) := rfl
      cases hb : hasB gl i with
      | true =>
        rw [hb] at hh
        rw [hb, if_pos rfl] at hnx
        simp (maxSteps := 1000000) (disch := first | decide | omega | (simp only [go_sem]; first | done | omega)) only [go_sem, Int.reduceToNat, Nat.reduceMul, Nat.reduceAdd, Nat.reduceSub, ↓EU_region, ↓EU_draw, g0, g3, g5, d1, hh]
        repeat refine WPo_ob ?_
        refine append_own (e := intE .i64) (h0 := h) (l := allN gl i) (l' := [(i : Int)]) fc_ap_22_22 i64_len (by decide) i64_scal (x'.push _) (ov.ext ((Ext.refl h').push _)) fv (OW.lit i64_len h' [(i : Int)]).sl (by simp only [List.length_cons, List.length_nil]; omega) (by simp only [List.length_cons, List.length_nil]; omega) fun v2 h2 o2 f2 x2 _ _ => ?_
        rw [← hnx] at o2
        simp (maxSteps := 1000000) (disch := first | decide | omega | (simp only [go_sem]; first | done | omega)) only [go_sem, Int.reduceToNat, Nat.reduceMul, Nat.reduceAdd, Nat.reduceSub, ↓EU_region, ↓EU_draw, g5, hwi]
        exact ⟨16 - (i + 1), by omega, i + 1, _, h2, v2, rfl, rfl, by omega, by simp (maxSteps := 1000000) (disch := first | decide | omega | (simp only [go_sem]; first | done | omega)) only [go_sem, Int.reduceToNat, Nat.reduceMul, Nat.reduceAdd, Nat.reduceSub, ↓EU_region, ↓EU_draw, g0], by simp (maxSteps := 1000000) (disch := first | decide | omega | (simp only [go_sem]; first | done | omega)) only [go_sem, Int.reduceToNat, Nat.reduceMul, Nat.reduceAdd, Nat.reduceSub, ↓EU_region, ↓EU_draw], by simp (maxSteps := 1000000) (disch := first | decide | omega | (simp only [go_sem]; first | done | omega)) only [go_sem, Int.reduceToNat, Nat.reduceMul, Nat.reduceAdd, Nat.reduceSub, ↓EU_region, ↓EU_draw], o2, f2, x2⟩
      | false =>
        rw [hb] at hh
        rw [hb, if_neg (by decide), List.append_nil] at hnx
        rw [← hnx] at ov
        simp (maxSteps := 1000000) (disch := first | decide | omega | (simp only [go_sem]; first | done | omega)) only [go_sem, Int.reduceToNat, Nat.reduceMul, Nat.reduceAdd, Nat.reduceSub, ↓EU_region, ↓EU_draw, g0, g3, g5, d1, hh, hwi]
        exact ⟨16 - (i + 1), by omega, i + 1, _, h', v, rfl, rfl, by omega, by simp (maxSteps := 1000000) (disch := first | decide | omega | (simp only [go_sem]; first | done | omega)) only [go_sem, Int.reduceToNat, Nat.reduceMul, Nat.reduceAdd, Nat.reduceSub, ↓EU_region, ↓EU_draw, g0], by simp (maxSteps := 1000000) (disch := first | decide | omega | (simp only [go_sem]; first | done | omega)) only [go_sem, Int.reduceToNat, Nat.reduceMul, Nat.reduceAdd, Nat.reduceSub, ↓EU_region, ↓EU_draw, g3], by simp (maxSteps := 1000000) (disch := first | decide | omega | (simp only [go_sem]; first | done | omega)) only [go_sem, Int.reduceToNat, Nat.reduceMul, Nat.reduceAdd, Nat.reduceSub, ↓EU_region, ↓EU_draw], ov, fv, x'⟩
    · have d1 : decide ((i : Int) < 16) = false := decide_eq_false (by omega)
      have e6 : i = 16 := by omega
      subst e6
      simp (maxSteps := 1000000) (disch := first | decide | omega | (simp only [go_sem]; first | done | omega)) only [go_sem, Int.reduceToNat, Nat.reduceMul, Nat.reduceAdd, Nat.reduceSub, ↓EU_region, ↓EU_draw, g0, g3, g5, d1]
      exact ⟨_, h', v, rfl, trivial, by simp (maxSteps := 1000000) (disch := first | decide | omega | (simp only [go_sem]; first | done | omega)) only [go_sem, Int.reduceToNat, Nat.reduceMul, Nat.reduceAdd, Nat.reduceSub, ↓EU_region, ↓EU_draw, g3], ov, fv, x'⟩
  · exact ⟨0, _, h, .slice none 0 1, rfl, rfl, by decide, by simp (maxSteps := 1000000) (disch := first | decide | omega | (simp only [go_sem]; first | done | omega)) only [go_sem, Int.reduceToNat, Nat.reduceMul, Nat.reduceAdd, Nat.reduceSub, ↓EU_region, ↓EU_draw], by simp (maxSteps := 1000000) (disch := first | decide | omega | (simp only [go_sem]; first | done | omega)) only [go_sem, Int.reduceToNat, Nat.reduceMul, Nat.reduceAdd, Nat.reduceSub, ↓EU_region, ↓EU_draw], by simp (maxSteps := 1000000) (disch := first | decide | omega | (simp only [go_sem]; first | done | omega)) only [go_sem, Int.reduceToNat, Nat.reduceMul, Nat.reduceAdd, Nat.reduceSub, ↓EU_region, ↓EU_draw]; rfl, OW.nil, Fresh.nil _ _ _, Ext.refl _⟩
  · decide
  · rintro ⟨_, _⟩ ⟨tm, h', v, rfl, rfl, g3, ov, fv, x'⟩
    simp (maxSteps := 1000000) (disch := first | decide | omega | (simp only [go_sem]; first | done | omega)) only [go_sem, Int.reduceToNat, Nat.reduceMul, Nat.reduceAdd, Nat.reduceSub, ↓EU_region, ↓EU_draw, g3]
    exact ⟨ov, fv, x'⟩
theorem ints_ev (a b : List Int) (s t : Value) (h : Heap) (hs : SL (intE .i64) 1 h s a) (ht : SL (intE .i64) 1 h t b) (hla : a.length < 900) (hlb : b.length < 900) :
    EF Try.prog O0 15 [s, t] h = some (.bool (decide (a = b)), h) := by
  have : WPo (EF Try.prog O0 15 [s, t] h) fun q => q = (.bool (decide (a = b)), h) := by
    rw [EF_body (O := O0) (by kernel_rfl) Try.func15 rfl (rs := [.tmp 4]) rfl (bad := []) (by kernel_rfl) _ _ (m := 26) rfl]
    obtain ⟨sa, sc, hv⟩ := hs.val
    subst hv
    obtain ⟨ta, tc, hv⟩ := ht.val
    subst hv
    by_cases q : a.length = b.length
    · have d : decide ((a.length : Int) = b.length) = true := decide_eq_true (by omega)
      simp (maxSteps := 1000000) (disch := first | decide | omega | (simp only [go_sem]; first | done | omega)) only [go_sem, Int.reduceToNat, Nat.reduceMul, Nat.reduceAdd, Nat.reduceSub, ↓EU_region, ↓EU_draw, d]
      repeat refine WPo_ob ?_
      refine (LP_rule (fun m st => ∃ (i : Nat) (tm : Fr), st = ⟨tm, h, []⟩ ∧ m = a.length - i ∧ i ≤ a.length ∧ Fr.get tm 0 = .slice sa a.length sc ∧ Fr.get tm 1 = .slice ta b.length tc ∧ Fr.get tm 5 = .int .i64 i ∧ a.take i = b.take i)
        (fun q => ∃ (tm : Fr), q.2 = ⟨tm, h, []⟩ ∧ ((q.1 = .exit 0 ∧ a = b) ∨ (q.1 = .ret ∧ a ≠ b ∧ Fr.get tm 4 = .bool false))) ?_ a.length _ _ ?_ ?_).mono ?_
      · rintro m _ ⟨i, tm, rfl, rfl, hi, g0, g1, g5, ht1⟩
        by_cases q' : i < a.length
        · have d1 : decide ((i : Int) < a.length) = true := decide_eq_true (by omega)
          obtain ⟨x, hx⟩ : ∃ x, a[i]? = some x := ⟨_, List.getElem?_eq_getElem q'⟩
          obtain ⟨y, hy⟩ : ∃ y, b[i]? = some y := ⟨_, List.getElem?_eq_getElem (by omega)⟩
          obtain ⟨b1, o1, c1, e, _, _, r1⟩ := hs.at hx rfl
          cases e
          obtain ⟨b2, o2, c2, e, _, _, r2⟩ := ht.at hy rfl
          cases e
          have r1' := r1 0 _ rfl
          have r2' := r2 0 _ rfl
          rw [Nat.add_zero] at r1' r2'
          have hwi : wrapF .i64 ((i : Int) + 1) = ((i + 1 : Nat) : Int) := by rw [wrap64 (by omega)]; rfl
          by_cases q2 : x = y
          · have d2 : decide (x = y) = true := decide_eq_true q2
            simp (maxSteps := 1000000) (disch := first | decide | omega | (simp only [go_sem]; first | done | omega)) only [go_sem, Int.reduceToNat, Nat.reduceMul, Nat.reduceAdd, Nat.reduceSub, ↓EU_region, ↓EU_draw, g0, g1, g5, d1, r1', r2', d2, hwi]
            exact ⟨a.length - (i + 1), by omega, i + 1, _, rfl, rfl, by omega, by simp (maxSteps := 1000000) (disch := first | decide | omega | (simp only [go_sem]; first | done | omega)) only [go_sem, Int.reduceToNat, Nat.reduceMul, Nat.reduceAdd, Nat.reduceSub, ↓EU_region, ↓EU_draw, g0], by simp (maxSteps := 1000000) (disch := first | decide | omega | (simp only [go_sem]; first | done | omega)) only [go_sem, Int.reduceToNat, Nat.reduceMul, Nat.reduceAdd, Nat.reduceSub, ↓EU_region, ↓EU_draw, g1], by simp (maxSteps := 1000000) (disch := first | decide | omega | (simp only [go_sem]; first | done | omega)) only [go_sem, Int.reduceToNat, Nat.reduceMul, Nat.reduceAdd, Nat.reduceSub, ↓EU_region, ↓EU_draw], by rw [List.take_add_one, List.take_add_one, ht1, hx, hy, q2]⟩
          · have d2 : decide (x = y) = false := decide_eq_false q2
            simp (maxSteps := 1000000) (disch := first | decide | omega | (simp only [go_sem]; first | done | omega)) only [go_sem, Int.reduceToNat, Nat.reduceMul, Nat.reduceAdd, Nat.reduceSub, ↓EU_region, ↓EU_draw, g0, g1, g5, d1, r1', r2', d2]
            exact ⟨_, rfl, .inr ⟨trivial, fun e => q2 (by subst e; rw [hx] at hy; exact Option.some.inj hy), by simp (maxSteps := 1000000) (disch := first | decide | omega | (simp only [go_sem]; first | done | omega)) only [go_sem, Int.reduceToNat, Nat.reduceMul, Nat.reduceAdd, Nat.reduceSub, ↓EU_region, ↓EU_draw]⟩⟩
        · have d1 : decide ((i : Int) < a.length) = false := decide_eq_false (by omega)
          have ei : i = a.length := by omega
          subst ei
          rw [List.take_length, q, List.take_length] at ht1
          simp (maxSteps := 1000000) (disch := first | decide | omega | (simp only [go_sem]; first | done | omega)) only [go_sem, Int.reduceToNat, Nat.reduceMul, Nat.reduceAdd, Nat.reduceSub, ↓EU_region, ↓EU_draw, g0, g5, d1]
          exact ⟨_, rfl, .inl ⟨trivial, ht1⟩⟩
      · exact ⟨0, _, rfl, rfl, by omega, by simp (maxSteps := 1000000) (disch := first | decide | omega | (simp only [go_sem]; first | done | omega)) only [go_sem, Int.reduceToNat, Nat.reduceMul, Nat.reduceAdd, Nat.reduceSub, ↓EU_region, ↓EU_draw], by simp (maxSteps := 1000000) (disch := first | decide | omega | (simp only [go_sem]; first | done | omega)) only [go_sem, Int.reduceToNat, Nat.reduceMul, Nat.reduceAdd, Nat.reduceSub, ↓EU_region, ↓EU_draw], by simp (maxSteps := 1000000) (disch := first | decide | omega | (simp only [go_sem]; first | done | omega)) only [go_sem, Int.reduceToNat, Nat.reduceMul, Nat.reduceAdd, Nat.reduceSub, ↓EU_region, ↓EU_draw]; rfl, rfl⟩
      · omega
      · rintro ⟨_, _⟩ ⟨tm, rfl, ⟨rfl, e⟩ | ⟨rfl, e, g4⟩⟩
        · rw [decide_eq_true e]
          simp (maxSteps := 1000000) (disch := first | decide | omega | (simp only [go_sem]; first | done | omega)) only [go_sem, Int.reduceToNat, Nat.reduceMul, Nat.reduceAdd, Nat.reduceSub, ↓EU_region, ↓EU_draw]
        · rw [decide_eq_false e]
          simp (maxSteps := 1000000) (disch := first | decide | omega | (simp only [go_sem]; first | done | omega)) only [go_sem, Int.reduceToNat, Nat.reduceMul, Nat.reduceAdd, Nat.reduceSub, ↓EU_region, ↓EU_draw, g4]
    · have d : decide ((a.length : Int) = b.length) = false := decide_eq_false (by omega)
      have e : decide (a = b) = false := decide_eq_false fun e => q (by rw [e])
      rw [e]
      simp (maxSteps := 1000000) (disch := first | decide | omega | (simp only [go_sem]; first | done | omega)) only [go_sem, Int.reduceToNat, Nat.reduceMul, Nat.reduceAdd, Nat.reduceSub, ↓EU_region, ↓EU_draw, d]
  obtain ⟨q, e, rfl⟩ := this
  exact e
end Go.Proofs.Ytagjgigknnaphaa.EV
