/- The reference's numbers of any size: Add. No condition. -/
import Derived.Test.YtoomhlfogeglcaaBig3
namespace Go.Proofs.Ytoomhlfogeglcaa.EV
open Go Go.Proofs
set_option linter.unusedVariables false
set_option linter.unusedSimpArgs false
set_option maxRecDepth 100000
set_option pp.deepTerms false
set_option pp.deepTerms.threshold 20
set_option maxHeartbeats 4000000 in
theorem radd_fr (n m : Bool) (a b : List Int) (s t : Value) (h : Heap) (hs : SL (intE .i64) 1 h s a) (ht : SL (intE .i64) 1 h t b) (ha : dig a) (hb : dig b) (hla : a.length ≤ 37) (hlb : b.length ≤ 37) :
    WPo (EF Try.prog O0 46 [bigV n s, bigV m t] h) fun q => ∃ k l v, q.1 = bigV k v ∧ SL (intE .i64) 1 q.2 v l ∧ dig l ∧ sv k l = sv n a + sv m b ∧ (l.length ≤ a.length ∨ l.length ≤ b.length ∨ ((l.length ≤ a.length + 1 ∨ l.length ≤ b.length + 1) ∧ pw (l.length - 1) ≤ val l)) ∧ Ext h q.2 ∧ Fresh h.next v := by
  have pA := fun (h' : Heap) (x : Ext h h') => putA_ev a b s t h' (hs.ext x) (ht.ext x) ha hb (by omega) (by omega)
  have pS := fun (h' : Heap) (x : Ext h h') (q : val b ≤ val a) => putS_ev a b s t h' (hs.ext x) (ht.ext x) ha hb (by omega) (by omega) q
  have pT := fun (h' : Heap) (x : Ext h h') (q : val a ≤ val b) => putS_ev b a t s h' (ht.ext x) (hs.ext x) hb ha (by omega) (by omega) q
  have cab := fun (h' : Heap) (x : Ext h h') => cmpSize_ev a b s t h' (hs.ext x) (ht.ext x) ha hb (by omega) (by omega)
  unfold bigV at *
  obtain ⟨sa, sc, rfl⟩ := hs.val
  obtain ⟨ta, tc, rfl⟩ := ht.val
  rw [EF_body (O := O0) (by kernel_rfl) Try.func46 rfl (rs := [.cell 4 53]) rfl (bad := [2, 4, 5]) (by kernel_rfl) _ _ (m := 40) rfl]
  obtain ⟨h0, hh0⟩ : ∃ z, ((h.push (.cells [.bool n, .slice sa a.length sc] 0)).push (.cells [.bool m, .slice ta b.length tc] 0)).push (.cells [.bool false, .slice none 0 1] 0) = z := ⟨_, rfl⟩
  have x0 : Ext h h0 := by rw [← hh0]; repeat (first | exact Ext.refl _ | assumption | refine Ext.push ?_ _ | refine Ext.set ?_ _ _ (by first | omega | (simp only [next_push, next_set]; omega)))
  have c2 : h0.get h.next = .cells [.bool n, .slice sa a.length sc] 0 := by rw [← hh0]; simp (maxSteps := 1000000) (disch := first | decide | omega | (simp only [go_sem]; first | done | omega)) only [go_sem, Int.reduceToNat, Nat.reduceMul, Nat.reduceAdd, Nat.reduceSub, ↓EU_region, ↓EU_draw]
  have c3 : h0.get (h.next + 1) = .cells [.bool m, .slice ta b.length tc] 0 := by rw [← hh0]; simp (maxSteps := 1000000) (disch := first | decide | omega | (simp only [go_sem]; first | done | omega)) only [go_sem, Int.reduceToNat, Nat.reduceMul, Nat.reduceAdd, Nat.reduceSub, ↓EU_region, ↓EU_draw]
  have c4 : h0.get (h.next + 2) = .cells [.bool false, .slice none 0 1] 0 := by rw [← hh0]; simp (maxSteps := 1000000) (disch := first | decide | omega | (simp only [go_sem]; first | done | omega)) only [go_sem, Int.reduceToNat, Nat.reduceMul, Nat.reduceAdd, Nat.reduceSub, ↓EU_region, ↓EU_draw]
  have hn0 : h0.next = h.next + 3 := by rw [← hh0]; simp (maxSteps := 1000000) (disch := first | decide | omega | (simp only [go_sem]; first | done | omega)) only [go_sem, Int.reduceToNat, Nat.reduceMul, Nat.reduceAdd, Nat.reduceSub, ↓EU_region, ↓EU_draw]
  by_cases q : n = m
  · subst q
    have hq : (n == n) = true := by simp
    simp (maxSteps := 1000000) (disch := first | decide | omega | (simp only [go_sem]; first | done | omega)) only [go_sem, Int.reduceToNat, Nat.reduceMul, Nat.reduceAdd, Nat.reduceSub, ↓EU_region, ↓EU_draw, hq]
    rw [hh0]
    rw [EU_bad _ _ rfl, EC_tab (tab := [(false, none), (false, (some (0, 1))), (false, none), (false, none), (false, none), (false, none), (true, none), (false, none), (true, none)]) (by kernel_rfl)]
    simp (maxSteps := 1000000) (disch := first | decide | omega | (simp only [go_sem]; first | done | omega)) only [go_sem, Int.reduceToNat, Nat.reduceMul, Nat.reduceAdd, Nat.reduceSub, ↓EU_region, ↓EU_draw, c2, c3, c4]
    repeat refine WPo_ob ?_
    refine (pA h0 x0).mono ?_
    rintro ⟨v, h1⟩ ⟨r, hs1, hf1, x1, hd1, hv1, hl1⟩
    simp only at hs1 hf1 x1
    have hn1 := x1.le
    have k2 := c2
    have k3 := c3
    have k4 := c4
    rw [← x1.old _ (by omega)] at k2 k3 k4
    obtain ⟨va, vc, rfl⟩ := hs1.val
    simp (maxSteps := 1000000) (disch := first | decide | omega | (simp only [go_sem]; first | done | omega)) only [go_sem, Int.reduceToNat, Nat.reduceMul, Nat.reduceAdd, Nat.reduceSub, ↓EU_region, ↓EU_draw, c2, c3, k2, k3, k4]
    refine ⟨_, r, _, rfl, hs1.modB (Mod.set (S := fun j => j = h.next + 1 + 1) (Mod.refl _ _) _ _ (fun _ => rfl)) (fun j hj q => by have := hf1 j hj; omega), hd1, ?_, by omega, (x0.trans x1).set _ _ (by omega), hf1.mono (by omega)⟩
    unfold sv
    rw [hv1]
    cases n with
    | false => simp
    | true => simp; omega
  · have hq : (n == m) = false := by simp [q]
    simp (maxSteps := 1000000) (disch := first | decide | omega | (simp only [go_sem]; first | done | omega)) only [go_sem, Int.reduceToNat, Nat.reduceMul, Nat.reduceAdd, Nat.reduceSub, ↓EU_region, ↓EU_draw, hq]
    rw [hh0]
    by_cases q2 : val b ≤ val a
    · have d : decide (0 ≤ sgnC (val a) (val b)) = true := decide_eq_true (by unfold sgnC; split <;> (try split) <;> omega)
      simp (maxSteps := 1000000) (disch := first | decide | omega | (simp only [go_sem]; first | done | omega)) only [go_sem, Int.reduceToNat, Nat.reduceMul, Nat.reduceAdd, Nat.reduceSub, ↓EU_region, ↓EU_draw, c2, c3, cab h0 x0, d]
      rw [EU_bad _ _ rfl, EC_tab (tab := [(false, none), (false, (some (0, 1))), (false, none), (false, none), (false, none), (false, none), (true, none), (false, none), (true, none)]) (by kernel_rfl)]
      simp (maxSteps := 1000000) (disch := first | decide | omega | (simp only [go_sem]; first | done | omega)) only [go_sem, Int.reduceToNat, Nat.reduceMul, Nat.reduceAdd, Nat.reduceSub, ↓EU_region, ↓EU_draw, c2, c3, c4]
      repeat refine WPo_ob ?_
      refine (pS h0 x0 q2).mono ?_
      rintro ⟨v, h1⟩ ⟨r, hs1, hf1, x1, hd1, hv1, hl1⟩
      simp only at hs1 hf1 x1
      have hn1 := x1.le
      have k2 := c2
      have k3 := c3
      have k4 := c4
      rw [← x1.old _ (by omega)] at k2 k3 k4
      obtain ⟨va, vc, rfl⟩ := hs1.val
      simp (maxSteps := 1000000) (disch := first | decide | omega | (simp only [go_sem]; first | done | omega)) only [go_sem, Int.reduceToNat, Nat.reduceMul, Nat.reduceAdd, Nat.reduceSub, ↓EU_region, ↓EU_draw, c2, c3, k2, k3, k4]
      refine ⟨_, r, _, rfl, hs1.modB (Mod.set (S := fun j => j = h.next + 1 + 1) (Mod.refl _ _) _ _ (fun _ => rfl)) (fun j hj q => by have := hf1 j hj; omega), hd1, ?_, by omega, (x0.trans x1).set _ _ (by omega), hf1.mono (by omega)⟩
      unfold sv
      rw [hv1]
      cases n <;> cases m <;> first | (exact absurd rfl q) | (simp; done) | (simp; omega)
    · have d : decide (0 ≤ sgnC (val a) (val b)) = false := decide_eq_false (by unfold sgnC; split <;> (try split) <;> omega)
      simp (maxSteps := 1000000) (disch := first | decide | omega | (simp only [go_sem]; first | done | omega)) only [go_sem, Int.reduceToNat, Nat.reduceMul, Nat.reduceAdd, Nat.reduceSub, ↓EU_region, ↓EU_draw, c2, c3, cab h0 x0, d]
      rw [EU_bad _ _ rfl, EC_tab (tab := [(false, none), (false, (some (0, 1))), (false, none), (false, none), (false, none), (false, none), (true, none), (false, none), (true, none)]) (by kernel_rfl)]
      simp (maxSteps := 1000000) (disch := first | decide | omega | (simp only [go_sem]; first | done | omega)) only [go_sem, Int.reduceToNat, Nat.reduceMul, Nat.reduceAdd, Nat.reduceSub, ↓EU_region, ↓EU_draw, c2, c3, c4]
      repeat refine WPo_ob ?_
      refine (pT h0 x0 (by omega)).mono ?_
      rintro ⟨v, h1⟩ ⟨r, hs1, hf1, x1, hd1, hv1, hl1⟩
      simp only at hs1 hf1 x1
      have hn1 := x1.le
      have k2 := c2
      have k3 := c3
      have k4 := c4
      rw [← x1.old _ (by omega)] at k2 k3 k4
      obtain ⟨va, vc, rfl⟩ := hs1.val
      simp (maxSteps := 1000000) (disch := first | decide | omega | (simp only [go_sem]; first | done | omega)) only [go_sem, Int.reduceToNat, Nat.reduceMul, Nat.reduceAdd, Nat.reduceSub, ↓EU_region, ↓EU_draw, c2, c3, k2, k3, k4]
      refine ⟨_, r, _, rfl, hs1.modB (Mod.set (S := fun j => j = h.next + 1 + 1) (Mod.refl _ _) _ _ (fun _ => rfl)) (fun j hj q => by have := hf1 j hj; omega), hd1, ?_, by omega, (x0.trans x1).set _ _ (by omega), hf1.mono (by omega)⟩
      unfold sv
      rw [hv1]
      cases n <;> cases m <;> first | (exact absurd rfl q) | (simp; done) | (simp; omega)
theorem radd_ev (n m : Bool) (a b : List Int) (s t : Value) (h : Heap) (hs : SL (intE .i64) 1 h s a) (ht : SL (intE .i64) 1 h t b) (ha : dig a) (hb : dig b) (hla : a.length ≤ 37) (hlb : b.length ≤ 37) :
    WPo (EF Try.prog O0 46 [bigV n s, bigV m t] h) fun q => ∃ k l v, q.1 = bigV k v ∧ SL (intE .i64) 1 q.2 v l ∧ dig l ∧ sv k l = sv n a + sv m b ∧ (l.length ≤ a.length ∨ l.length ≤ b.length ∨ ((l.length ≤ a.length + 1 ∨ l.length ≤ b.length + 1) ∧ pw (l.length - 1) ≤ val l)) ∧ Ext h q.2 := by
  refine (radd_fr n m a b s t h hs ht ha hb hla hlb).mono ?_
  rintro ⟨v, h'⟩ ⟨k, l, w, e, h1, h2, h3, h4, h5, _⟩
  exact ⟨k, l, w, e, h1, h2, h3, h4, h5⟩
end Go.Proofs.Ytoomhlfogeglcaa.EV
