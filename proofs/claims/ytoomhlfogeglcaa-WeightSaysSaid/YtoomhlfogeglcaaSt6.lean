/- Contracts: sorting, stable. No condition. -/
import Derived.Test.YtoomhlfogeglcaaSt5
namespace Go.Proofs.Ytoomhlfogeglcaa.EV
open Go Go.Proofs
set_option linter.unusedVariables false
set_option linter.unusedSimpArgs false
set_option maxRecDepth 100000
set_option pp.deepTerms false
set_option pp.deepTerms.threshold 20
/-- each one in its block -/
noncomputable def BI (z : Nat) (l lc : List Int) : Prop := ∀ k, k < l.length → ∃ k', k' < l.length ∧ k' / z = k / z ∧ lc[k]? = l[k']?
/-- blocks in order, those ahead of a -/
noncomputable def BS (F : Int → Int) (z a : Nat) (lc : List Int) : Prop := ∀ (i j : Nat) (x y : Int), i < j → j < a → i / z = j / z → lc[i]? = some x → lc[j]? = some y → ltF F x y
noncomputable def Sa (a : Nat) (l lc : List Int) : Prop := ∀ k, a ≤ k → lc[k]? = l[k]?
/-- what a merge needs -/
theorem pre_merge {F : Int → Int} {l lc l2 : List Int} {z a b : Nat} (hz : z = 20 ∨ z = 40 ∨ z = 80) (asc : AscOn l 0 l.length) (bi : BI z l lc) (bs : BS F z l.length lc) (sa : Sa a lc l2) (ha : a % (2 * z) = 0) (hb : b ≤ l.length) (h1 : a + z ≤ b) (h2 : b ≤ a + 2 * z) :
    SrtOn F l2 a (a + z) ∧ SrtOn F l2 (a + z) b ∧ AscX l2 a (a + z) b := by
  refine ⟨fun i j x y k1 k2 k3 hx hy => ?_, fun i j x y k1 k2 k3 hx hy => ?_, fun i j x y k1 k2 k3 k4 hx hy => ?_⟩
  · rw [sa _ (by omega)] at hx hy
    exact bs i j x y k2 (by omega) (by rcases hz with rfl | rfl | rfl <;> omega) hx hy
  · rw [sa _ (by omega)] at hx hy
    exact bs i j x y k2 (by omega) (by rcases hz with rfl | rfl | rfl <;> omega) hx hy
  · rw [sa _ (by omega)] at hx hy
    obtain ⟨i', i1, i2, i3⟩ := bi i (by omega)
    obtain ⟨j', j1, j2, j3⟩ := bi j (by omega)
    rw [i3] at hx
    rw [j3] at hy
    exact asc i' j' x y (Nat.zero_le _) (by clear hx hy i3 j3; rcases hz with rfl | rfl | rfl <;> omega) j1 hx hy
theorem post_merge {F : Int → Int} {l lc l2 l3 : List Int} {z a b : Nat} (hz : z = 20 ∨ z = 40 ∨ z = 80) (ha : a % (2 * z) = 0) (h2 : b ≤ a + 2 * z) (hb : b ≤ l.length) (hab : a ≤ b) (bi : BI (2 * z) l l2) (bs : BS F (2 * z) a l2) (sa : Sa a lc l2) (r : RP a b l2 l3) (so : SrtOn F l3 a b) : BI (2 * z) l l3 ∧ BS F (2 * z) b l3 ∧ Sa b lc l3 := by
  refine ⟨fun k hk => ?_, fun i j x y k1 k2 k3 hx hy => ?_, fun k hk => ?_⟩
  · by_cases e : a ≤ k ∧ k < b
    · obtain ⟨k', u1, u2, u3⟩ := r.ins k e.1 e.2
      obtain ⟨k2, v1, v2, v3⟩ := bi k' (by omega)
      exact ⟨k2, v1, by clear u3 v3; rcases hz with rfl | rfl | rfl <;> omega, u3.trans v3⟩
    · obtain ⟨k', u1, u2, u3⟩ := bi k hk
      exact ⟨k', u1, u2, (r.out k (by omega)).trans u3⟩
  · by_cases e : a ≤ j
    · exact so i j x y (by clear hx hy; rcases hz with rfl | rfl | rfl <;> omega) k1 k2 hx hy
    · rw [r.out i (by omega)] at hx
      rw [r.out j (by omega)] at hy
      exact bs i j x y k1 (by omega) k3 hx hy
  · exact (r.out k (.inr hk)).trans (sa k (by omega))
set_option maxHeartbeats 16000000 in
theorem stable_ev {h0 h : Heap} {s fv : Value} {F : Int → Int} {ok : Int → Prop} {l : List Int} (C : CMP fv F ok s h0) (q : SS h0 s h l) (hok : ∀ x ∈ l, ok x) (hl : l.length ≤ 64) (asc : AscOn l 0 l.length) :
    WPo (EF Try.prog O0 33 [s, .int .i64 (l.length : Int), fv] h) fun r => ∃ l', SS h0 s r.2 l' ∧ l'.Perm l ∧ SrtOn F l' 0 l.length := by
  rw [EF_body (O := O0) (by kernel_rfl) Try.func33 rfl (rs := []) rfl (bad := []) (by kernel_rfl) _ _ (m := 63) rfl]
  simp (maxSteps := 1000000) (disch := first | decide | omega | (simp only [go_sem]; first | done | omega)) only [go_sem, Int.reduceToNat, Nat.reduceMul, Nat.reduceAdd, Nat.reduceSub, ↓EU_region, ↓EU_draw]
  repeat refine WPo_ob ?_
  refine (LP_rule (fun mm st => ∃ (a : Nat) (tm : Fr) (h' : Heap) (lc : List Int), st = ⟨tm, h', []⟩ ∧ mm = l.length - a ∧ a ≤ l.length ∧ a % 20 = 0 ∧ Fr.get tm 0 = s ∧ Fr.get tm 1 = .int .i64 (l.length : Int) ∧ Fr.get tm 2 = fv ∧ Fr.get tm 6 = .int .i64 20 ∧ Fr.get tm 7 = .int .i64 (a : Int) ∧ Fr.get tm 8 = .int .i64 ((a + 20 : Nat) : Int) ∧ SS h0 s h' lc ∧ lc.Perm l ∧ BI 20 l lc ∧ BS F 20 a lc ∧ Sa a l lc)
    (fun q => ∃ (a : Nat) (tm : Fr) (h' : Heap) (lc : List Int), q.2 = ⟨tm, h', []⟩ ∧ q.1 = .exit 0 ∧ a ≤ l.length ∧ l.length < a + 20 ∧ a % 20 = 0 ∧ Fr.get tm 0 = s ∧ Fr.get tm 1 = .int .i64 (l.length : Int) ∧ Fr.get tm 2 = fv ∧ Fr.get tm 6 = .int .i64 20 ∧ Fr.get tm 7 = .int .i64 (a : Int) ∧ SS h0 s h' lc ∧ lc.Perm l ∧ BI 20 l lc ∧ BS F 20 a lc ∧ Sa a l lc) ?_ l.length _ _ ?_ ?_).mono ?_
  · rintro mm _ ⟨a, tm, h', lc, rfl, hmm, ha, ha20, g0, g1, g2, g6, g7, g8, q', p', bi, bs, sa⟩
    have ll := p'.length_eq
    by_cases hq : a + 20 ≤ l.length
    · have d : decide (((a + 20 : Nat) : Int) ≤ (l.length : Int)) = true := decide_eq_true (by omega)
      have w1 : wrapF .i64 (((a + 20 : Nat) : Int) + 20) = ((a + 20 + 20 : Nat) : Int) := by rw [wrap64 (by omega)]; rfl
      simp (maxSteps := 1000000) (disch := first | decide | omega | (simp only [go_sem]; first | done | omega)) only [go_sem, Int.reduceToNat, Nat.reduceMul, Nat.reduceAdd, Nat.reduceSub, ↓EU_region, ↓EU_draw, g0, g1, g2, g7, g8, d]
      repeat refine WPo_ob ?_
      refine (ins_ev C q' (fun x hx => hok x (p'.mem_iff.1 hx)) a (a + 20) (by omega) (by omega) (by omega) (fun i j x y h1 h2 h3 hx hy => asc i j x y (by omega) h2 (by omega) (by rw [← sa i h1]; exact hx) (by rw [← sa j (by omega)]; exact hy))).mono ?_
      rintro ⟨v, h2⟩ ⟨l2, q2, r2, s2⟩
      simp (maxSteps := 1000000) (disch := first | decide | omega | (simp only [go_sem]; first | done | omega)) only [go_sem, Int.reduceToNat, Nat.reduceMul, Nat.reduceAdd, Nat.reduceSub, ↓EU_region, ↓EU_draw, g6, g8, w1]
      refine ⟨l.length - (a + 20), by omega, a + 20, _, h2, l2, rfl, rfl, hq, by omega, by simp (maxSteps := 1000000) (disch := first | decide | omega | (simp only [go_sem]; first | done | omega)) only [go_sem, Int.reduceToNat, Nat.reduceMul, Nat.reduceAdd, Nat.reduceSub, ↓EU_region, ↓EU_draw, g0], by simp (maxSteps := 1000000) (disch := first | decide | omega | (simp only [go_sem]; first | done | omega)) only [go_sem, Int.reduceToNat, Nat.reduceMul, Nat.reduceAdd, Nat.reduceSub, ↓EU_region, ↓EU_draw, g1], by simp (maxSteps := 1000000) (disch := first | decide | omega | (simp only [go_sem]; first | done | omega)) only [go_sem, Int.reduceToNat, Nat.reduceMul, Nat.reduceAdd, Nat.reduceSub, ↓EU_region, ↓EU_draw, g2], by simp (maxSteps := 1000000) (disch := first | decide | omega | (simp only [go_sem]; first | done | omega)) only [go_sem, Int.reduceToNat, Nat.reduceMul, Nat.reduceAdd, Nat.reduceSub, ↓EU_region, ↓EU_draw, g6], by simp (maxSteps := 1000000) (disch := first | decide | omega | (simp only [go_sem]; first | done | omega)) only [go_sem, Int.reduceToNat, Nat.reduceMul, Nat.reduceAdd, Nat.reduceSub, ↓EU_region, ↓EU_draw], by simp (maxSteps := 1000000) (disch := first | decide | omega | (simp only [go_sem]; first | done | omega)) only [go_sem, Int.reduceToNat, Nat.reduceMul, Nat.reduceAdd, Nat.reduceSub, ↓EU_region, ↓EU_draw], q2, r2.pm.trans p', fun k hk => ?_, fun i j x y h1 h2 h3 hx hy => ?_, fun k hk => ?_⟩
      · by_cases e : a ≤ k ∧ k < a + 20
        · obtain ⟨k', h1, h2, h3⟩ := r2.ins k e.1 e.2
          exact ⟨k', by omega, by omega, by rw [h3, sa k' h1]⟩
        · obtain ⟨k', h1, h2, h3⟩ := bi k hk
          exact ⟨k', h1, h2, by rw [r2.out k (by omega)]; exact h3⟩
      · by_cases e : a ≤ j
        · exact s2 i j x y (by omega) h1 h2 hx hy
        · rw [r2.out i (by omega)] at hx
          rw [r2.out j (by omega)] at hy
          exact bs i j x y h1 (by omega) h3 hx hy
      · rw [r2.out k (.inr hk)]
        exact sa k (by omega)
    · have d : decide (((a + 20 : Nat) : Int) ≤ (l.length : Int)) = false := decide_eq_false (by omega)
      simp (maxSteps := 1000000) (disch := first | decide | omega | (simp only [go_sem]; first | done | omega)) only [go_sem, Int.reduceToNat, Nat.reduceMul, Nat.reduceAdd, Nat.reduceSub, ↓EU_region, ↓EU_draw, g1, g8, d]
      exact ⟨a, _, h', lc, rfl, trivial, ha, by omega, ha20, by simp (maxSteps := 1000000) (disch := first | decide | omega | (simp only [go_sem]; first | done | omega)) only [go_sem, Int.reduceToNat, Nat.reduceMul, Nat.reduceAdd, Nat.reduceSub, ↓EU_region, ↓EU_draw, g0], by simp (maxSteps := 1000000) (disch := first | decide | omega | (simp only [go_sem]; first | done | omega)) only [go_sem, Int.reduceToNat, Nat.reduceMul, Nat.reduceAdd, Nat.reduceSub, ↓EU_region, ↓EU_draw, g1], by simp (maxSteps := 1000000) (disch := first | decide | omega | (simp only [go_sem]; first | done | omega)) only [go_sem, Int.reduceToNat, Nat.reduceMul, Nat.reduceAdd, Nat.reduceSub, ↓EU_region, ↓EU_draw, g2], by simp (maxSteps := 1000000) (disch := first | decide | omega | (simp only [go_sem]; first | done | omega)) only [go_sem, Int.reduceToNat, Nat.reduceMul, Nat.reduceAdd, Nat.reduceSub, ↓EU_region, ↓EU_draw, g6], by simp (maxSteps := 1000000) (disch := first | decide | omega | (simp only [go_sem]; first | done | omega)) only [go_sem, Int.reduceToNat, Nat.reduceMul, Nat.reduceAdd, Nat.reduceSub, ↓EU_region, ↓EU_draw, g7], q', p', bi, bs, sa⟩
  · exact ⟨0, _, h, l, rfl, rfl, Nat.zero_le _, rfl, by simp (maxSteps := 1000000) (disch := first | decide | omega | (simp only [go_sem]; first | done | omega)) only [go_sem, Int.reduceToNat, Nat.reduceMul, Nat.reduceAdd, Nat.reduceSub, ↓EU_region, ↓EU_draw], by simp (maxSteps := 1000000) (disch := first | decide | omega | (simp only [go_sem]; first | done | omega)) only [go_sem, Int.reduceToNat, Nat.reduceMul, Nat.reduceAdd, Nat.reduceSub, ↓EU_region, ↓EU_draw], by simp (maxSteps := 1000000) (disch := first | decide | omega | (simp only [go_sem]; first | done | omega)) only [go_sem, Int.reduceToNat, Nat.reduceMul, Nat.reduceAdd, Nat.reduceSub, ↓EU_region, ↓EU_draw], by simp (maxSteps := 1000000) (disch := first | decide | omega | (simp only [go_sem]; first | done | omega)) only [go_sem, Int.reduceToNat, Nat.reduceMul, Nat.reduceAdd, Nat.reduceSub, ↓EU_region, ↓EU_draw], by simp (maxSteps := 1000000) (disch := first | decide | omega | (simp only [go_sem]; first | done | omega)) only [go_sem, Int.reduceToNat, Nat.reduceMul, Nat.reduceAdd, Nat.reduceSub, ↓EU_region, ↓EU_draw]; rfl, by simp (maxSteps := 1000000) (disch := first | decide | omega | (simp only [go_sem]; first | done | omega)) only [go_sem, Int.reduceToNat, Nat.reduceMul, Nat.reduceAdd, Nat.reduceSub, ↓EU_region, ↓EU_draw]; rfl, q, List.Perm.refl _, fun k hk => ⟨k, hk, rfl, rfl⟩, fun i j x y h1 h2 => absurd h2 (Nat.not_lt_zero _), fun k hk => rfl⟩
  · omega
  rintro ⟨_, _⟩ ⟨a, tm, h', lc, rfl, rfl, ha, hlt, ha20, g0, g1, g2, g6, g7, q', p', bi, bs, sa⟩
  have ll := p'.length_eq
  simp (maxSteps := 1000000) (disch := first | decide | omega | (simp only [go_sem]; first | done | omega)) only [go_sem, Int.reduceToNat, Nat.reduceMul, Nat.reduceAdd, Nat.reduceSub, ↓EU_region, ↓EU_draw, g0, g1, g2, g7]
  repeat refine WPo_ob ?_
  refine (ins_ev C q' (fun x hx => hok x (p'.mem_iff.1 hx)) a l.length ha (by omega) (by omega) (fun i j x y h1 h2 h3 hx hy => asc i j x y (by omega) h2 h3 (by rw [← sa i h1]; exact hx) (by rw [← sa j (by omega)]; exact hy))).mono ?_
  rintro ⟨v, h2⟩ ⟨l2, q2, r2, s2⟩
  have bi2 : BI 20 l l2 := fun k hk => by
    by_cases e : a ≤ k ∧ k < l.length
    · obtain ⟨k', h1, h2, h3⟩ := r2.ins k e.1 e.2
      exact ⟨k', by omega, by omega, by rw [h3, sa k' h1]⟩
    · obtain ⟨k', h1, h2, h3⟩ := bi k hk
      exact ⟨k', h1, h2, by rw [r2.out k (by omega)]; exact h3⟩
  have bs2 : BS F 20 l.length l2 := fun i j x y h1 h2 h3 hx hy => by
    by_cases e : a ≤ j
    · exact s2 i j x y (by omega) h1 h2 hx hy
    · rw [r2.out i (by omega)] at hx
      rw [r2.out j (by omega)] at hy
      exact bs i j x y h1 (by omega) h3 hx hy
  have p2 := r2.pm.trans p'
  clear bi bs sa s2 r2 p' q' ll
  simp (maxSteps := 1000000) (disch := first | decide | omega | (simp only [go_sem]; first | done | omega)) only [go_sem, Int.reduceToNat, Nat.reduceMul, Nat.reduceAdd, Nat.reduceSub, ↓EU_region, ↓EU_draw]
  repeat refine WPo_ob ?_
  refine (LP_rule (fun mm st => ∃ (z : Nat) (tm : Fr) (h' : Heap) (lc : List Int), st = ⟨tm, h', []⟩ ∧ mm = 100 - z ∧ (z = 20 ∨ z = 40 ∨ z = 80) ∧ Fr.get tm 0 = s ∧ Fr.get tm 1 = .int .i64 (l.length : Int) ∧ Fr.get tm 2 = fv ∧ Fr.get tm 6 = .int .i64 (z : Int) ∧ SS h0 s h' lc ∧ lc.Perm l ∧ BI z l lc ∧ BS F z l.length lc)
    (fun q => ∃ (tm : Fr) (h' : Heap) (lc : List Int), q.2 = ⟨tm, h', []⟩ ∧ q.1 = .exit 2 ∧ SS h0 s h' lc ∧ lc.Perm l ∧ SrtOn F lc 0 l.length) ?_ 80 _ _ ?_ ?_).mono ?_
  rotate_left
  · exact ⟨20, _, h2, l2, rfl, rfl, .inl rfl, by simp (maxSteps := 1000000) (disch := first | decide | omega | (simp only [go_sem]; first | done | omega)) only [go_sem, Int.reduceToNat, Nat.reduceMul, Nat.reduceAdd, Nat.reduceSub, ↓EU_region, ↓EU_draw, g0], by simp (maxSteps := 1000000) (disch := first | decide | omega | (simp only [go_sem]; first | done | omega)) only [go_sem, Int.reduceToNat, Nat.reduceMul, Nat.reduceAdd, Nat.reduceSub, ↓EU_region, ↓EU_draw, g1], by simp (maxSteps := 1000000) (disch := first | decide | omega | (simp only [go_sem]; first | done | omega)) only [go_sem, Int.reduceToNat, Nat.reduceMul, Nat.reduceAdd, Nat.reduceSub, ↓EU_region, ↓EU_draw, g2], by simp (maxSteps := 1000000) (disch := first | decide | omega | (simp only [go_sem]; first | done | omega)) only [go_sem, Int.reduceToNat, Nat.reduceMul, Nat.reduceAdd, Nat.reduceSub, ↓EU_region, ↓EU_draw, g6]; rfl, q2, p2, bi2, bs2⟩
  · omega
  · rintro ⟨_, _⟩ ⟨tm, h', lc, rfl, rfl, q', p', s'⟩
    simp (maxSteps := 1000000) (disch := first | decide | omega | (simp only [go_sem]; first | done | omega)) only [go_sem, Int.reduceToNat, Nat.reduceMul, Nat.reduceAdd, Nat.reduceSub, ↓EU_region, ↓EU_draw]
    exact ⟨lc, q', p', s'⟩
  clear g0 g1 g2 g6 g7
  rintro mm _ ⟨z, tm, h', lc, rfl, hmm, hz, g0, g1, g2, g6, q', p', bi, bs⟩
  have ll := p'.length_eq
  by_cases hq : z < l.length
  rotate_left
  · have d : decide ((z : Int) < (l.length : Int)) = false := decide_eq_false (by omega)
    simp (maxSteps := 1000000) (disch := first | decide | omega | (simp only [go_sem]; first | done | omega)) only [go_sem, Int.reduceToNat, Nat.reduceMul, Nat.reduceAdd, Nat.reduceSub, ↓EU_region, ↓EU_draw, g1, g6, d]
    refine ⟨_, h', lc, rfl, trivial, q', p', fun i j x y h1 h2 h3 hx hy => bs i j x y h2 h3 ?_ hx hy⟩
    rcases hz with rfl | rfl | rfl <;> omega
  have d : decide ((z : Int) < (l.length : Int)) = true := decide_eq_true (by omega)
  have w1 : wrapF .i64 (2 * (z : Int)) = ((2 * z : Nat) : Int) := by rw [wrap64 (by omega)]; omega
  have w2 : wrapF .i64 ((z : Int) * 2) = ((2 * z : Nat) : Int) := by rw [wrap64 (by omega)]; omega
  simp (maxSteps := 1000000) (disch := first | decide | omega | (simp only [go_sem]; first | done | omega)) only [go_sem, Int.reduceToNat, Nat.reduceMul, Nat.reduceAdd, Nat.reduceSub, ↓EU_region, ↓EU_draw, g1, g6, d, w1]
  repeat refine WPo_ob ?_
  have bi0 : BI (2 * z) l lc := fun k hk => by
    obtain ⟨k', h1, h2, h3⟩ := bi k hk
    exact ⟨k', h1, by clear h3; rcases hz with rfl | rfl | rfl <;> omega, h3⟩
  refine (LP_rule (fun mm st => ∃ (a : Nat) (tm : Fr) (h' : Heap) (l2 : List Int), st = ⟨tm, h', []⟩ ∧ mm = l.length - a ∧ a ≤ l.length ∧ a % (2 * z) = 0 ∧ Fr.get tm 0 = s ∧ Fr.get tm 1 = .int .i64 (l.length : Int) ∧ Fr.get tm 2 = fv ∧ Fr.get tm 6 = .int .i64 (z : Int) ∧ Fr.get tm 7 = .int .i64 (a : Int) ∧ Fr.get tm 8 = .int .i64 ((a + 2 * z : Nat) : Int) ∧ SS h0 s h' l2 ∧ l2.Perm l ∧ BI (2 * z) l l2 ∧ BS F (2 * z) a l2 ∧ Sa a lc l2)
    (fun q => ∃ (a : Nat) (tm : Fr) (h' : Heap) (l2 : List Int), q.2 = ⟨tm, h', []⟩ ∧ q.1 = .exit 4 ∧ a ≤ l.length ∧ l.length < a + 2 * z ∧ a % (2 * z) = 0 ∧ Fr.get tm 0 = s ∧ Fr.get tm 1 = .int .i64 (l.length : Int) ∧ Fr.get tm 2 = fv ∧ Fr.get tm 6 = .int .i64 (z : Int) ∧ Fr.get tm 7 = .int .i64 (a : Int) ∧ SS h0 s h' l2 ∧ l2.Perm l ∧ BI (2 * z) l l2 ∧ BS F (2 * z) a l2 ∧ Sa a lc l2) ?_ l.length _ _ ?_ ?_).mono ?_
  · clear g0 g1 g2 g6
    rintro mm _ ⟨a, tm, h', l2, rfl, hmm, ha, haz, g0, g1, g2, g6, g7, g8, q2, p2, bi2, bs2, sa2⟩
    have ll2 := p2.length_eq
    by_cases hq2 : a + 2 * z ≤ l.length
    · have d : decide (((a + 2 * z : Nat) : Int) ≤ (l.length : Int)) = true := decide_eq_true (by omega)
      have w3 : wrapF .i64 ((a : Int) + (z : Int)) = ((a + z : Nat) : Int) := by rw [wrap64 (by omega)]; rfl
      have w4 : wrapF .i64 (2 * (z : Int)) = ((2 * z : Nat) : Int) := by rw [wrap64 (by omega)]; omega
      have w5 : wrapF .i64 (((a + 2 * z : Nat) : Int) + ((2 * z : Nat) : Int)) = ((a + 2 * z + 2 * z : Nat) : Int) := by rw [wrap64 (by omega)]; rfl
      obtain ⟨m1, m2, m3⟩ := pre_merge hz asc bi bs sa2 haz hq2 (by omega) (Nat.le_refl _)
      simp (maxSteps := 1000000) (disch := first | decide | omega | (simp only [go_sem]; first | done | omega)) only [go_sem, Int.reduceToNat, Nat.reduceMul, Nat.reduceAdd, Nat.reduceSub, ↓EU_region, ↓EU_draw, g0, g1, g2, g6, g7, g8, d, w3]
      repeat refine WPo_ob ?_
      refine (sym_ev C _ a (a + z) (a + 2 * z) _ l2 rfl q2 (fun x hx => hok x (p2.mem_iff.1 hx)) (by omega) (by omega) (by omega) (by omega) m1 m2 m3).mono ?_
      rintro ⟨v, h3⟩ ⟨l3, q3, r3, so3⟩
      obtain ⟨n1, n2, n3⟩ := post_merge hz haz (Nat.le_refl _) hq2 (by omega) bi2 bs2 sa2 r3 so3
      simp (maxSteps := 1000000) (disch := first | decide | omega | (simp only [go_sem]; first | done | omega)) only [go_sem, Int.reduceToNat, Nat.reduceMul, Nat.reduceAdd, Nat.reduceSub, ↓EU_region, ↓EU_draw, g6, g8, w4, w5]
      exact ⟨l.length - (a + 2 * z), by omega, a + 2 * z, _, h3, l3, rfl, rfl, hq2, by rw [Nat.add_mod_right]; exact haz, by simp (maxSteps := 1000000) (disch := first | decide | omega | (simp only [go_sem]; first | done | omega)) only [go_sem, Int.reduceToNat, Nat.reduceMul, Nat.reduceAdd, Nat.reduceSub, ↓EU_region, ↓EU_draw, g0], by simp (maxSteps := 1000000) (disch := first | decide | omega | (simp only [go_sem]; first | done | omega)) only [go_sem, Int.reduceToNat, Nat.reduceMul, Nat.reduceAdd, Nat.reduceSub, ↓EU_region, ↓EU_draw, g1], by simp (maxSteps := 1000000) (disch := first | decide | omega | (simp only [go_sem]; first | done | omega)) only [go_sem, Int.reduceToNat, Nat.reduceMul, Nat.reduceAdd, Nat.reduceSub, ↓EU_region, ↓EU_draw, g2], by simp (maxSteps := 1000000) (disch := first | decide | omega | (simp only [go_sem]; first | done | omega)) only [go_sem, Int.reduceToNat, Nat.reduceMul, Nat.reduceAdd, Nat.reduceSub, ↓EU_region, ↓EU_draw, g6], by simp (maxSteps := 1000000) (disch := first | decide | omega | (simp only [go_sem]; first | done | omega)) only [go_sem, Int.reduceToNat, Nat.reduceMul, Nat.reduceAdd, Nat.reduceSub, ↓EU_region, ↓EU_draw], by simp (maxSteps := 1000000) (disch := first | decide | omega | (simp only [go_sem]; first | done | omega)) only [go_sem, Int.reduceToNat, Nat.reduceMul, Nat.reduceAdd, Nat.reduceSub, ↓EU_region, ↓EU_draw], q3, r3.pm.trans p2, n1, n2, n3⟩
    · have d : decide (((a + 2 * z : Nat) : Int) ≤ (l.length : Int)) = false := decide_eq_false (by omega)
      simp (maxSteps := 1000000) (disch := first | decide | omega | (simp only [go_sem]; first | done | omega)) only [go_sem, Int.reduceToNat, Nat.reduceMul, Nat.reduceAdd, Nat.reduceSub, ↓EU_region, ↓EU_draw, g1, g8, d]
      exact ⟨a, _, h', l2, rfl, trivial, ha, by omega, haz, by simp (maxSteps := 1000000) (disch := first | decide | omega | (simp only [go_sem]; first | done | omega)) only [go_sem, Int.reduceToNat, Nat.reduceMul, Nat.reduceAdd, Nat.reduceSub, ↓EU_region, ↓EU_draw, g0], by simp (maxSteps := 1000000) (disch := first | decide | omega | (simp only [go_sem]; first | done | omega)) only [go_sem, Int.reduceToNat, Nat.reduceMul, Nat.reduceAdd, Nat.reduceSub, ↓EU_region, ↓EU_draw, g1], by simp (maxSteps := 1000000) (disch := first | decide | omega | (simp only [go_sem]; first | done | omega)) only [go_sem, Int.reduceToNat, Nat.reduceMul, Nat.reduceAdd, Nat.reduceSub, ↓EU_region, ↓EU_draw, g2], by simp (maxSteps := 1000000) (disch := first | decide | omega | (simp only [go_sem]; first | done | omega)) only [go_sem, Int.reduceToNat, Nat.reduceMul, Nat.reduceAdd, Nat.reduceSub, ↓EU_region, ↓EU_draw, g6], by simp (maxSteps := 1000000) (disch := first | decide | omega | (simp only [go_sem]; first | done | omega)) only [go_sem, Int.reduceToNat, Nat.reduceMul, Nat.reduceAdd, Nat.reduceSub, ↓EU_region, ↓EU_draw, g7], q2, p2, bi2, bs2, sa2⟩
  · exact ⟨0, _, h', lc, rfl, rfl, Nat.zero_le _, Nat.zero_mod _, by simp (maxSteps := 1000000) (disch := first | decide | omega | (simp only [go_sem]; first | done | omega)) only [go_sem, Int.reduceToNat, Nat.reduceMul, Nat.reduceAdd, Nat.reduceSub, ↓EU_region, ↓EU_draw, g0], by simp (maxSteps := 1000000) (disch := first | decide | omega | (simp only [go_sem]; first | done | omega)) only [go_sem, Int.reduceToNat, Nat.reduceMul, Nat.reduceAdd, Nat.reduceSub, ↓EU_region, ↓EU_draw, g1], by simp (maxSteps := 1000000) (disch := first | decide | omega | (simp only [go_sem]; first | done | omega)) only [go_sem, Int.reduceToNat, Nat.reduceMul, Nat.reduceAdd, Nat.reduceSub, ↓EU_region, ↓EU_draw, g2], by simp (maxSteps := 1000000) (disch := first | decide | omega | (simp only [go_sem]; first | done | omega)) only [go_sem, Int.reduceToNat, Nat.reduceMul, Nat.reduceAdd, Nat.reduceSub, ↓EU_region, ↓EU_draw, g6], by simp (maxSteps := 1000000) (disch := first | decide | omega | (simp only [go_sem]; first | done | omega)) only [go_sem, Int.reduceToNat, Nat.reduceMul, Nat.reduceAdd, Nat.reduceSub, ↓EU_region, ↓EU_draw]; rfl, by simp (maxSteps := 1000000) (disch := first | decide | omega | (simp only [go_sem]; first | done | omega)) only [go_sem, Int.reduceToNat, Nat.reduceMul, Nat.reduceAdd, Nat.reduceSub, ↓EU_region, ↓EU_draw], q', p', bi0, fun i j x y h1 h2 => absurd h2 (Nat.not_lt_zero _), fun k hk => rfl⟩
  · omega
  clear g0 g1 g2 g6
  rintro ⟨_, _⟩ ⟨a, tm, h3, l2, rfl, rfl, ha, hlt, haz, g0, g1, g2, g6, g7, q2, p2, bi2, bs2, sa2⟩
  have ll2 := p2.length_eq
  have w3 : wrapF .i64 ((a : Int) + (z : Int)) = ((a + z : Nat) : Int) := by rw [wrap64 (by omega)]; rfl
  have hz' : 2 * z = 20 ∨ 2 * z = 40 ∨ 2 * z = 80 := by omega
  by_cases hq2 : a + z < l.length
  · have d2 : decide (((a + z : Nat) : Int) < (l.length : Int)) = true := decide_eq_true (by omega)
    obtain ⟨m1, m2, m3⟩ := pre_merge hz asc bi bs sa2 haz (Nat.le_refl _) (by omega) (by omega)
    simp (maxSteps := 1000000) (disch := first | decide | omega | (simp only [go_sem]; first | done | omega)) only [go_sem, Int.reduceToNat, Nat.reduceMul, Nat.reduceAdd, Nat.reduceSub, ↓EU_region, ↓EU_draw, g0, g1, g2, g6, g7, w3, d2]
    repeat refine WPo_ob ?_
    refine (sym_ev C _ a (a + z) l.length _ l2 rfl q2 (fun x hx => hok x (p2.mem_iff.1 hx)) (by omega) (by omega) (by omega) (by omega) m1 m2 m3).mono ?_
    rintro ⟨v, h4⟩ ⟨l3, q3, r3, so3⟩
    obtain ⟨n1, n2, n3⟩ := post_merge hz haz (by omega) (Nat.le_refl _) ha bi2 bs2 sa2 r3 so3
    simp (maxSteps := 1000000) (disch := first | decide | omega | (simp only [go_sem]; first | done | omega)) only [go_sem, Int.reduceToNat, Nat.reduceMul, Nat.reduceAdd, Nat.reduceSub, ↓EU_region, ↓EU_draw, g6, w2]
    exact ⟨100 - 2 * z, by omega, 2 * z, _, h4, l3, rfl, rfl, hz', by simp (maxSteps := 1000000) (disch := first | decide | omega | (simp only [go_sem]; first | done | omega)) only [go_sem, Int.reduceToNat, Nat.reduceMul, Nat.reduceAdd, Nat.reduceSub, ↓EU_region, ↓EU_draw, g0], by simp (maxSteps := 1000000) (disch := first | decide | omega | (simp only [go_sem]; first | done | omega)) only [go_sem, Int.reduceToNat, Nat.reduceMul, Nat.reduceAdd, Nat.reduceSub, ↓EU_region, ↓EU_draw, g1], by simp (maxSteps := 1000000) (disch := first | decide | omega | (simp only [go_sem]; first | done | omega)) only [go_sem, Int.reduceToNat, Nat.reduceMul, Nat.reduceAdd, Nat.reduceSub, ↓EU_region, ↓EU_draw, g2], by simp (maxSteps := 1000000) (disch := first | decide | omega | (simp only [go_sem]; first | done | omega)) only [go_sem, Int.reduceToNat, Nat.reduceMul, Nat.reduceAdd, Nat.reduceSub, ↓EU_region, ↓EU_draw], q3, r3.pm.trans p2, n1, n2⟩
  · have d2 : decide (((a + z : Nat) : Int) < (l.length : Int)) = false := decide_eq_false (by omega)
    simp (maxSteps := 1000000) (disch := first | decide | omega | (simp only [go_sem]; first | done | omega)) only [go_sem, Int.reduceToNat, Nat.reduceMul, Nat.reduceAdd, Nat.reduceSub, ↓EU_region, ↓EU_draw, g1, g6, g7, w3, d2, w2]
    refine ⟨100 - 2 * z, by omega, 2 * z, _, h3, l2, rfl, rfl, hz', by simp (maxSteps := 1000000) (disch := first | decide | omega | (simp only [go_sem]; first | done | omega)) only [go_sem, Int.reduceToNat, Nat.reduceMul, Nat.reduceAdd, Nat.reduceSub, ↓EU_region, ↓EU_draw, g0], by simp (maxSteps := 1000000) (disch := first | decide | omega | (simp only [go_sem]; first | done | omega)) only [go_sem, Int.reduceToNat, Nat.reduceMul, Nat.reduceAdd, Nat.reduceSub, ↓EU_region, ↓EU_draw, g1], by simp (maxSteps := 1000000) (disch := first | decide | omega | (simp only [go_sem]; first | done | omega)) only [go_sem, Int.reduceToNat, Nat.reduceMul, Nat.reduceAdd, Nat.reduceSub, ↓EU_region, ↓EU_draw, g2], by simp (maxSteps := 1000000) (disch := first | decide | omega | (simp only [go_sem]; first | done | omega)) only [go_sem, Int.reduceToNat, Nat.reduceMul, Nat.reduceAdd, Nat.reduceSub, ↓EU_region, ↓EU_draw], q2, p2, bi2, fun i j x y h1 h2 h3 hx hy => ?_⟩
    by_cases e : a ≤ j
    · have hi : a ≤ i := by clear hx hy; rcases hz with rfl | rfl | rfl <;> omega
      rw [sa2 i hi] at hx
      rw [sa2 j e] at hy
      exact bs i j x y h1 h2 (by clear hx hy; rcases hz with rfl | rfl | rfl <;> omega) hx hy
    · exact bs2 i j x y h1 (by omega) h3 hx hy
theorem sortS_ev {h0 h : Heap} {s fv : Value} {F : Int → Int} {ok : Int → Prop} {l : List Int} (C : CMP fv F ok s h0) (q : SS h0 s h l) (hok : ∀ x ∈ l, ok x) (hl : l.length ≤ 64) (asc : AscOn l 0 l.length) :
    WPo (EF Try.prog O0 25 [s, fv] h) fun r => ∃ l', SS h0 s r.2 l' ∧ l'.Perm l ∧ SrtOn F l' 0 l.length := by
  obtain ⟨a, c, hv⟩ := q.ow.val
  have hst := stable_ev C q hok hl asc
  rw [EF_body (O := O0) (by kernel_rfl) Try.func25 rfl (rs := []) rfl (bad := []) (by kernel_rfl) _ _ (m := 9) rfl]
  rw [hv] at hst ⊢
  simp (maxSteps := 1000000) (disch := first | decide | omega | (simp only [go_sem]; first | done | omega)) only [go_sem, Int.reduceToNat, Nat.reduceMul, Nat.reduceAdd, Nat.reduceSub, ↓EU_region, ↓EU_draw]
  repeat refine WPo_ob ?_
  refine hst.mono ?_
  rintro ⟨v, h2⟩ r
  simp (maxSteps := 1000000) (disch := first | decide | omega | (simp only [go_sem]; first | done | omega)) only [go_sem, Int.reduceToNat, Nat.reduceMul, Nat.reduceAdd, Nat.reduceSub, ↓EU_region, ↓EU_draw]
  exact r
end Go.Proofs.Ytoomhlfogeglcaa.EV
