/- Contracts: groups: Remove. No condition. -/
import Derived.Test.YtagjgigknnaphaaGrp8
namespace Go.Proofs.Ytagjgigknnaphaa.EV
open Go Go.Proofs
set_option linter.unusedVariables false
set_option linter.unusedSimpArgs false
set_option maxRecDepth 100000
set_option pp.deepTerms false
set_option pp.deepTerms.threshold 20
noncomputable def kid (id : Int) (x : Gp) : Bool := x.1 && decide (x.2 = id)
noncomputable def gremR (gl : List Gp) (id : Int) : Int × List Gp :=
  if id = 0 then (1, gl) else if hasB gl id then (if gl.any (kid id) then (4, gl) else (0, gl.set id.toNat (false, 0))) else (2, gl)
theorem any_no {gl : List Gp} {p : Gp → Bool} (h : ∀ j, j < gl.length → p (gl.getD j (false, 0)) = false) : gl.any p = false := by
  rw [List.any_eq_false]
  intro x hx
  obtain ⟨i, hi, e⟩ := List.getElem_of_mem hx
  have := h i hi
  rw [List.getD_eq_getElem?_getD, List.getElem?_eq_getElem hi, e] at this
  simp only [Option.getD_some] at this
  rw [this]; decide
theorem any_yes {gl : List Gp} {p : Gp → Bool} {j : Nat} (hj : j < gl.length) (h : p (gl.getD j (false, 0)) = true) : gl.any p = true := by
  rw [List.any_eq_true]
  rw [List.getD_eq_getElem?_getD, List.getElem?_eq_getElem hj] at h
  exact ⟨_, List.getElem_mem hj, h⟩
set_option maxHeartbeats 4000000 in
theorem grem_ev (gl : List Gp) (B : Nat) (id : Int) (h : Heap) (g : GR h B gl) :
    WPo (EF Try.prog O0 17 [ptr B 0, .int .i64 id] h) fun q => q.1 = .int .i64 (gremR gl id).1 ∧ GR q.2 B (gremR gl id).2 ∧ Mod (fun j => j = B) h q.2 := by
  unfold gremR
  have hh := has_ev gl B id h g
  rw [EF_body (O := O0) (by kernel_rfl) Try.func17 rfl (rs := [.tmp 4]) rfl (bad := []) (by kernel_rfl) _ _ (m := 37) rfl]
  by_cases h0 : id = 0
  · have d : decide (id = 0) = true := decide_eq_true h0
    rw [if_pos h0]
    simp (maxSteps := 1000000) (disch := first | decide | omega | (simp only [go_sem]; first | done | omega)) only [go_sem, Int.reduceToNat, Nat.reduceMul, Nat.reduceAdd, Nat.reduceSub, ↓EU_region, ↓EU_draw, d]
    exact ⟨trivial, g, Mod.refl _ _⟩
  · have d : decide (id = 0) = false := decide_eq_false h0
    rw [if_neg h0]
    cases hb : hasB gl id with
    | false =>
      rw [hb] at hh
      rw [if_neg (by decide)]
      simp (maxSteps := 1000000) (disch := first | decide | omega | (simp only [go_sem]; first | done | omega)) only [go_sem, Int.reduceToNat, Nat.reduceMul, Nat.reduceAdd, Nat.reduceSub, ↓EU_region, ↓EU_draw, d, hh]
      exact ⟨trivial, g, Mod.refl _ _⟩
    | true =>
      rw [hb] at hh
      rw [if_pos rfl]
      have hbb := hasB_iff.1 hb
      have g1 := g
      have hrd : rdc (h.get B) 0 32 = some (gl.flatMap gE) := by
        rw [g1.1, rdc_c _ _ _ _ (by rw [gE_flat_len, g.2.1]; decide), List.drop_zero, List.take_of_length_le (by rw [gE_flat_len, g.2.1]; decide)]
      simp (maxSteps := 1000000) (disch := first | decide | omega | (simp only [go_sem]; first | done | omega)) only [go_sem, Int.reduceToNat, Nat.reduceMul, Nat.reduceAdd, Nat.reduceSub, ↓EU_region, ↓EU_draw, d, hh, hrd]
      repeat refine WPo_ob ?_
      refine (LP_rule (fun m st => ∃ (i : Nat) (tm : Fr) (h' : Heap), st = ⟨tm, h', []⟩ ∧ m = 16 - i ∧ i ≤ 16 ∧ Fr.get tm 0 = ptr B 0 ∧ Fr.get tm 1 = .int .i64 id ∧ Fr.get tm 18 = .agg ⟨gl.flatMap gE⟩ ∧ Fr.get tm 19 = .int .i64 i ∧ (∀ j, j < i → kid id (gl.getD j (false, 0)) = false) ∧ Ext h h')
        (fun q => ∃ (tm : Fr) (h' : Heap), q.2 = ⟨tm, h', []⟩ ∧ Ext h h' ∧ ((q.1 = .exit 1 ∧ gl.any (kid id) = false ∧ Fr.get tm 0 = ptr B 0 ∧ Fr.get tm 1 = .int .i64 id) ∨ (q.1 = .ret ∧ gl.any (kid id) = true ∧ Fr.get tm 4 = .int .i64 4))) ?_ 16 _ _ ?_ ?_).mono ?_
      · rintro m _ ⟨i, tm, h', rfl, rfl, hi, g0, g1', g18, g19, ha, x'⟩
        by_cases q : i < 16
        · have d1 : decide ((i : Int) < 16) = true := decide_eq_true (by omega)
          have hpt := gE_part gl i (by rw [g.2.1]; exact q)
          have hwi : wrapF .i64 ((i : Int) + 1) = ((i + 1 : Nat) : Int) := by rw [wrap64 (by omega)]; rfl
          generalize he : gl.getD i (false, 0) = x at hpt
          obtain ⟨xt, xu⟩ := x
          have hpp : PART (some 2) (gl.flatMap gE) (i * 2) = some (.agg ⟨[.bool xt, .int .i64 xu]⟩) := by
            unfold PART
            show cnd (Nat.ble (i * 2 + 2) _) _ _ = _
            rw [hpt, Nat.ble_eq_true_of_le (by rw [gE_flat_len, g.2.1]; omega)]; rfl
          have hno : kid id (xt, xu) = false → ∀ j, j < i + 1 → kid id (gl.getD j (false, 0)) = false := fun hk j hj => by
            by_cases e : j = i
            · subst e; rw [he]; exact hk
            · exact ha j (by omega)
          cases xt with
          | false =>
            simp (maxSteps := 1000000) (disch := first | decide | omega | (simp only [go_sem]; first | done | omega)) only [go_sem, Int.reduceToNat, Nat.reduceMul, Nat.reduceAdd, Nat.reduceSub, ↓EU_region, ↓EU_draw, g0, g1', g18, g19, d1, hpp, hwi]
            exact ⟨16 - (i + 1), by omega, i + 1, _, _, rfl, rfl, by omega, by simp (maxSteps := 1000000) (disch := first | decide | omega | (simp only [go_sem]; first | done | omega)) only [go_sem, Int.reduceToNat, Nat.reduceMul, Nat.reduceAdd, Nat.reduceSub, ↓EU_region, ↓EU_draw, g0], by simp (maxSteps := 1000000) (disch := first | decide | omega | (simp only [go_sem]; first | done | omega)) only [go_sem, Int.reduceToNat, Nat.reduceMul, Nat.reduceAdd, Nat.reduceSub, ↓EU_region, ↓EU_draw, g1'], by simp (maxSteps := 1000000) (disch := first | decide | omega | (simp only [go_sem]; first | done | omega)) only [go_sem, Int.reduceToNat, Nat.reduceMul, Nat.reduceAdd, Nat.reduceSub, ↓EU_region, ↓EU_draw, g18], by simp (maxSteps := 1000000) (disch := first | decide | omega | (simp only [go_sem]; first | done | omega)) only [go_sem, Int.reduceToNat, Nat.reduceMul, Nat.reduceAdd, Nat.reduceSub, ↓EU_region, ↓EU_draw], hno rfl, x'.push _⟩
          | true =>
            by_cases q2 : xu = id
            · have d2 : decide (xu = id) = true := decide_eq_true q2
              simp (maxSteps := 1000000) (disch := first | decide | omega | (simp only [go_sem]; first | done | omega)) only [go_sem, Int.reduceToNat, Nat.reduceMul, Nat.reduceAdd, Nat.reduceSub, ↓EU_region, ↓EU_draw, g0, g1', g18, g19, d1, hpp, d2]
              exact ⟨_, _, rfl, x'.push _, .inr ⟨trivial, any_yes (j := i) (by rw [g.2.1]; exact q) (by rw [he]; unfold kid; rw [d2]; rfl), by simp (maxSteps := 1000000) (disch := first | decide | omega | (simp only [go_sem]; first | done | omega)) only [go_sem, Int.reduceToNat, Nat.reduceMul, Nat.reduceAdd, Nat.reduceSub, ↓EU_region, ↓EU_draw]⟩⟩
            · have d2 : decide (xu = id) = false := decide_eq_false q2
              simp (maxSteps := 1000000) (disch := first | decide | omega | (simp only [go_sem]; first | done | omega)) only [go_sem, Int.reduceToNat, Nat.reduceMul, Nat.reduceAdd, Nat.reduceSub, ↓EU_region, ↓EU_draw, g0, g1', g18, g19, d1, hpp, d2, hwi]
              exact ⟨16 - (i + 1), by omega, i + 1, _, _, rfl, rfl, by omega, by simp (maxSteps := 1000000) (disch := first | decide | omega | (simp only [go_sem]; first | done | omega)) only [go_sem, Int.reduceToNat, Nat.reduceMul, Nat.reduceAdd, Nat.reduceSub, ↓EU_region, ↓EU_draw, g0], by simp (maxSteps := 1000000) (disch := first | decide | omega | (simp only [go_sem]; first | done | omega)) only [go_sem, Int.reduceToNat, Nat.reduceMul, Nat.reduceAdd, Nat.reduceSub, ↓EU_region, ↓EU_draw, g1'], by simp (maxSteps := 1000000) (disch := first | decide | omega | (simp only [go_sem]; first | done | omega)) only [go_sem, Int.reduceToNat, Nat.reduceMul, Nat.reduceAdd, Nat.reduceSub, ↓EU_region, ↓EU_draw, g18], by simp (maxSteps := 1000000) (disch := first | decide | omega | (simp only [go_sem]; first | done | omega)) only [go_sem, Int.reduceToNat, Nat.reduceMul, Nat.reduceAdd, Nat.reduceSub, ↓EU_region, ↓EU_draw], hno (by unfold kid; rw [d2]; rfl), x'.push _⟩
        · have d1 : decide ((i : Int) < 16) = false := decide_eq_false (by omega)
          have e6 : i = 16 := by omega
          subst e6
          simp (maxSteps := 1000000) (disch := first | decide | omega | (simp only [go_sem]; first | done | omega)) only [go_sem, Int.reduceToNat, Nat.reduceMul, Nat.reduceAdd, Nat.reduceSub, ↓EU_region, ↓EU_draw, g0, g1', g18, g19, d1]
          exact ⟨_, h', rfl, x', .inl ⟨trivial, any_no (fun j hj => ha j (by rw [← g.2.1]; exact hj)), by simp (maxSteps := 1000000) (disch := first | decide | omega | (simp only [go_sem]; first | done | omega)) only [go_sem, Int.reduceToNat, Nat.reduceMul, Nat.reduceAdd, Nat.reduceSub, ↓EU_region, ↓EU_draw, g0], by simp (maxSteps := 1000000) (disch := first | decide | omega | (simp only [go_sem]; first | done | omega)) only [go_sem, Int.reduceToNat, Nat.reduceMul, Nat.reduceAdd, Nat.reduceSub, ↓EU_region, ↓EU_draw, g1']⟩⟩
      · exact ⟨0, _, h, rfl, rfl, by decide, by simp (maxSteps := 1000000) (disch := first | decide | omega | (simp only [go_sem]; first | done | omega)) only [go_sem, Int.reduceToNat, Nat.reduceMul, Nat.reduceAdd, Nat.reduceSub, ↓EU_region, ↓EU_draw], by simp (maxSteps := 1000000) (disch := first | decide | omega | (simp only [go_sem]; first | done | omega)) only [go_sem, Int.reduceToNat, Nat.reduceMul, Nat.reduceAdd, Nat.reduceSub, ↓EU_region, ↓EU_draw], by simp (maxSteps := 1000000) (disch := first | decide | omega | (simp only [go_sem]; first | done | omega)) only [go_sem, Int.reduceToNat, Nat.reduceMul, Nat.reduceAdd, Nat.reduceSub, ↓EU_region, ↓EU_draw], by simp (maxSteps := 1000000) (disch := first | decide | omega | (simp only [go_sem]; first | done | omega)) only [go_sem, Int.reduceToNat, Nat.reduceMul, Nat.reduceAdd, Nat.reduceSub, ↓EU_region, ↓EU_draw]; rfl, fun j hj => by omega, Ext.refl _⟩
      · decide
      · rintro ⟨_, _⟩ ⟨tm, h', rfl, x', ⟨rfl, hf, k0, k1⟩ | ⟨rfl, hf, k4⟩⟩
        · rw [hf, if_neg (by decide)]
          have g2 := g.ext x'
          have gc := g2.1
          have d0 : decide (0 ≤ id) = true := decide_eq_true hbb.1
          have d1 : decide (id < 16) = true := decide_eq_true hbb.2.1
          have hwr : wrc h' B (id.toNat * 2) [.bool false, .int .i64 0] (.cells (gl.flatMap gE) 0) = some (h'.set B (.cells ((gl.set id.toNat (false, 0)).flatMap gE) 0)) := by
            rw [wrc_c _ _ _ _ _ _ (by rw [gE_flat_len, g.2.1]; simp only [List.length_cons, List.length_nil]; omega) rfl]
            rw [← gE_set gl id.toNat (false, 0) (by rw [g.2.1]; omega)]
            rfl
          simp (maxSteps := 1000000) (disch := first | decide | omega | (simp only [go_sem]; first | done | omega)) only [go_sem, Int.reduceToNat, Nat.reduceMul, Nat.reduceAdd, Nat.reduceSub, ↓EU_region, ↓EU_draw, k0, k1, gc, d0, d1, hwr]
          exact ⟨trivial, ⟨get_set_same _ _ _, by rw [List.length_set]; exact g.2.1, by rw [next_set]; exact g2.2.2⟩, (x'.mod _).set _ _ (fun _ => rfl)⟩
        · rw [hf, if_pos rfl]
          simp (maxSteps := 1000000) (disch := first | decide | omega | (simp only [go_sem]; first | done | omega)) only [go_sem, Int.reduceToNat, Nat.reduceMul, Nat.reduceAdd, Nat.reduceSub, ↓EU_region, ↓EU_draw, k4]
          exact ⟨trivial, g.ext x', x'.mod _⟩
theorem PA_rem {gl : List Gp} (hl : gl.length = 16) {k : Nat} (hk : k < 16) (hn : gl.any (kid k) = false) {id : Int} {l : List Int} (h : PA gl id l) : id ≠ k → PA (gl.set k (false, 0)) id l := by
  induction h with
  | stop h =>
    intro q
    refine .stop ?_
    rename_i id
    cases hb' : hasB (gl.set k (false, 0)) id with
    | false => rfl
    | true =>
      have hh := hasB_iff.1 hb'
      rw [gat_set hl hk _ hh.1, if_neg q] at hh
      rw [hasB_iff.2 hh] at h
      cases h
  | @go id l h r ih =>
    intro q
    have hh := hasB_iff.1 h
    have hg : gat (gl.set k (false, 0)) id = gat gl id := by rw [gat_set hl hk _ hh.1, if_neg q]
    refine .go (hasB_iff.2 ⟨hh.1, hh.2.1, by rw [hg]; exact hh.2.2⟩) ?_
    rw [hg]
    refine ih fun e => ?_
    have : gl.any (kid k) = true := any_yes (j := id.toNat) (by omega) (by
      show kid k (gat gl id) = true
      unfold kid
      rw [hh.2.2, decide_eq_true e]; rfl)
    rw [hn] at this
    cases this
theorem GI_rem {gl : List Gp} (g : GI gl) (id : Int) : GI (gremR gl id).2 := by
  unfold gremR
  by_cases h0 : id = 0
  · rw [if_pos h0]; exact g
  · rw [if_neg h0]
    cases hb : hasB gl id with
    | false => exact g
    | true =>
      rw [if_pos rfl]
      cases ha : gl.any (kid id) with
      | true => exact g
      | false =>
        rw [if_neg (by decide)]
        have hbb := hasB_iff.1 hb
        obtain ⟨g1, g2, g3⟩ := g
        have hk : id.toNat < 16 := by omega
        have e : ((id.toNat : Nat) : Int) = id := by omega
        refine ⟨by rw [List.length_set]; exact g1, by rw [gat_set g1 hk _ (by decide), if_neg (by omega)]; exact g2, fun z => ?_⟩
        by_cases q : z = id
        · refine ⟨[], .stop ?_, by decide, fun h => (h rfl).elim⟩
          cases hb' : hasB (gl.set id.toNat (false, 0)) z with
          | false => rfl
          | true =>
            have hh := hasB_iff.1 hb'
            rw [gat_set g1 hk _ hh.1, if_pos (by omega)] at hh
            cases hh.2.2
        · obtain ⟨l, p1, p2, p3⟩ := g3 z
          exact ⟨l, PA_rem g1 hk (by rw [e]; exact ha) p1 (by rw [e]; exact q), p2, p3⟩
end Go.Proofs.Ytagjgigknnaphaa.EV
