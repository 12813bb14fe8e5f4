/- Contracts: groups: New, Add. No condition. -/
import Derived.Test.YtagjgigknnaphaaGrp5
namespace Go.Proofs.Ytagjgigknnaphaa.EV
open Go Go.Proofs
set_option linter.unusedVariables false
set_option linter.unusedSimpArgs false
set_option maxRecDepth 100000
set_option pp.deepTerms false
set_option pp.deepTerms.threshold 20
noncomputable def gl0 : List Gp := (true, -1) :: List.replicate 15 (false, 0)
theorem gnew_ev (h : Heap) : WPo (EF Try.prog O0 8 [] h) fun q => q.1 = ptr h.next 0 ∧ GR q.2 h.next gl0 ∧ Ext h q.2 := by
  rw [EF_body (O := O0) (by kernel_rfl) Try.func8 rfl (rs := [.tmp 0]) rfl (bad := []) (by kernel_rfl) _ _ (m := 10) rfl]
  simp (maxSteps := 1000000) (disch := first | decide | omega | (simp only [go_sem]; first | done | omega)) only [go_sem, Int.reduceToNat, Nat.reduceMul, Nat.reduceAdd, Nat.reduceSub, ↓EU_region, ↓EU_draw]
  exact ⟨trivial, ⟨get_push_new _ _, rfl, by rw [next_push]; omega⟩, (Ext.refl h).push _⟩
/-- the first that is free, behind so many -/
noncomputable def freeR : List Gp → Nat → Option Nat
  | [], _ => none
  | x :: l, i => if x.1 then freeR l (i + 1) else some i
noncomputable def gaddR (gl : List Gp) (up : Int) (d : Nat) : Int × Int × List Gp :=
  if hasB gl up then (if 4 ≤ d then (0, 6, gl) else match freeR gl 0 with
    | some k => ((k : Int), 0, gl.set k (true, up))
    | none => (0, 3, gl)) else (0, 2, gl)
theorem freeR_hit : ∀ (gl : List Gp) (i n : Nat), (∀ j, j < i → (gl.getD j (false, 0)).1 = true) → i < gl.length → (gl.getD i (false, 0)).1 = false → freeR gl n = some (n + i)
  | [], _, _, _, h, _ => by simp at h
  | x :: gl, 0, n, _, _, h => by
    have : x.1 = false := h
    unfold freeR
    rw [this]; rfl
  | x :: gl, i + 1, n, ha, hl, h => by
    have h0 : x.1 = true := ha 0 (by omega)
    have ih := freeR_hit gl i (n + 1) (fun j hj => ha (j + 1) (by omega)) (by simpa using hl) h
    unfold freeR
    rw [h0, if_pos rfl, ih]
    congr 1; omega
theorem freeR_miss : ∀ (gl : List Gp) (n : Nat), (∀ j, j < gl.length → (gl.getD j (false, 0)).1 = true) → freeR gl n = none
  | [], _, _ => rfl
  | x :: gl, n, ha => by
    have h0 : x.1 = true := ha 0 (by simp)
    have ih := freeR_miss gl (n + 1) fun j hj => ha (j + 1) (by simpa using hj)
    unfold freeR
    rw [h0, if_pos rfl, ih]
theorem gE_flat_len (gl : List Gp) : (gl.flatMap gE).length = gl.length * 2 := by
  induction gl with
  | nil => rfl
  | cons x gl ih => rw [List.flatMap_cons, List.length_append, ih, gE_len, List.length_cons]; omega
theorem gE_part : ∀ (gl : List Gp) (i : Nat), i < gl.length → ((gl.flatMap gE).drop (i * 2)).take 2 = gE (gl.getD i (false, 0))
  | [], _, h => by simp at h
  | x :: gl, 0, _ => rfl
  | x :: gl, i + 1, h => by
    have ih := gE_part gl i (by simpa using h)
    have e1 : (i + 1) * 2 = i * 2 + 1 + 1 := by omega
    rw [List.flatMap_cons, e1, List.getD_cons_succ]
    exact ih
theorem gE_set0 : ∀ (gl : List Gp) (i : Nat) (x : Gp), i < gl.length → (gl.flatMap gE).take (i * 2) ++ (gE x ++ (gl.flatMap gE).drop (i * 2 + 2)) = (gl.set i x).flatMap gE
  | [], _, _, h => by simp at h
  | y :: gl, 0, x, _ => rfl
  | y :: gl, i + 1, x, h => by
    have ih := gE_set0 gl i x (by simpa using h)
    have e1 : (i + 1) * 2 = i * 2 + 1 + 1 := by omega
    rw [List.set_cons_succ, List.flatMap_cons, List.flatMap_cons, e1, ← ih]
    rfl
theorem gE_set (gl : List Gp) (i : Nat) (x : Gp) (h : i < gl.length) : splice (gl.flatMap gE) (i * 2) (gE x) = (gl.set i x).flatMap gE := by
  have hl := gE_flat_len gl
  rw [splice_eq _ _ _ (by rw [gE_len]; omega), gE_len]
  exact gE_set0 gl i x h
set_option maxHeartbeats 4000000 in
theorem gadd_ev (gl : List Gp) (B : Nat) (up : Int) (l : List Int) (hp : PA gl up l) (hl : l.length ≤ 1000) (h : Heap) (g : GR h B gl) :
    WPo (EF Try.prog O0 9 [ptr B 0, .int .i64 up] h) fun q => q.1 = .tuple ⟨[.int .i64 (gaddR gl up l.length).1, .int .i64 (gaddR gl up l.length).2.1]⟩ ∧ GR q.2 B (gaddR gl up l.length).2.2 ∧ Mod (fun j => j = B) h q.2 := by
  unfold gaddR
  have hh := has_ev gl B up h g
  rw [EF_body (O := O0) (by kernel_rfl) Try.func9 rfl (rs := [.tmp 4, .tmp 5]) rfl (bad := []) (by kernel_rfl) _ _ (m := 38) rfl]
  cases hb : hasB gl up with
  | false =>
    rw [hb] at hh
    rw [if_neg (by decide)]
    simp (maxSteps := 1000000) (disch := first | decide | omega | (simp only [go_sem]; first | done | omega)) only [go_sem, Int.reduceToNat, Nat.reduceMul, Nat.reduceAdd, Nat.reduceSub, ↓EU_region, ↓EU_draw, hh]
    exact ⟨trivial, g, Mod.refl _ _⟩
  | true =>
    rw [hb] at hh
    rw [if_pos rfl]
    simp (maxSteps := 1000000) (disch := first | decide | omega | (simp only [go_sem]; first | done | omega)) only [go_sem, Int.reduceToNat, Nat.reduceMul, Nat.reduceAdd, Nat.reduceSub, ↓EU_region, ↓EU_draw, hh]
    repeat refine WPo_ob ?_
    refine (depth_ev gl B up l hp hl h g).bind fun h1 x1 => ?_
    have g1 := g.ext x1
    by_cases hd : 4 ≤ l.length
    · have d : decide (4 ≤ (l.length : Int)) = true := decide_eq_true (by omega)
      rw [if_pos hd]
      simp (maxSteps := 1000000) (disch := first | decide | omega | (simp only [go_sem]; first | done | omega)) only [go_sem, Int.reduceToNat, Nat.reduceMul, Nat.reduceAdd, Nat.reduceSub, ↓EU_region, ↓EU_draw, d]
      exact ⟨trivial, g1, x1.mod _⟩
    · have d : decide (4 ≤ (l.length : Int)) = false := decide_eq_false (by omega)
      rw [if_neg hd]
      have hrd : rdc (h1.get B) 0 32 = some (gl.flatMap gE) := by
        rw [g1.1, rdc_c _ _ _ _ (by rw [gE_flat_len, g.2.1]; decide), List.drop_zero, List.take_of_length_le (by rw [gE_flat_len, g.2.1]; decide)]
      simp (maxSteps := 1000000) (disch := first | decide | omega | (simp only [go_sem]; first | done | omega)) only [go_sem, Int.reduceToNat, Nat.reduceMul, Nat.reduceAdd, Nat.reduceSub, ↓EU_region, ↓EU_draw, d, hrd]
      repeat refine WPo_ob ?_
      refine (LP_rule (fun m st => ∃ (i : Nat) (tm : Fr) (h' : Heap), st = ⟨tm, h', []⟩ ∧ m = 16 - i ∧ i ≤ 16 ∧ Fr.get tm 0 = ptr B 0 ∧ Fr.get tm 1 = .int .i64 up ∧ Fr.get tm 21 = .agg ⟨gl.flatMap gE⟩ ∧ Fr.get tm 22 = .int .i64 i ∧ (∀ j, j < i → (gl.getD j (false, 0)).1 = true) ∧ Ext h1 h')
        (fun q => ∃ (tm : Fr) (h' : Heap), q.2 = ⟨tm, h', []⟩ ∧ ((q.1 = .exit 1 ∧ freeR gl 0 = none ∧ Ext h1 h') ∨ (q.1 = .ret ∧ ∃ k : Nat, freeR gl 0 = some k ∧ Fr.get tm 4 = .int .i64 k ∧ Fr.get tm 5 = .int .i64 0 ∧ GR h' B (gl.set k (true, up)) ∧ Mod (fun j => j = B) h1 h'))) ?_ 16 _ _ ?_ ?_).mono ?_
      · rintro m _ ⟨i, tm, h', rfl, rfl, hi, g0, g1', g21, g22, ha, x'⟩
        by_cases q : i < 16
        · have d1 : decide ((i : Int) < 16) = true := decide_eq_true (by omega)
          have hpt := gE_part gl i (by rw [g.2.1]; exact q)
          have g2 := g1.ext x'
          generalize he : gl.getD i (false, 0) = x at hpt
          obtain ⟨xt, xu⟩ := x
          have hpp : PART (some 2) (gl.flatMap gE) (i * 2) = some (.agg ⟨[.bool xt, .int .i64 xu]⟩) := by
            unfold PART
            show cnd (Nat.ble (i * 2 + 2) _) _ _ = _
            rw [hpt, Nat.ble_eq_true_of_le (by rw [gE_flat_len, g.2.1]; omega)]; rfl
          cases xt with
          | true =>
            have hwi : wrapF .i64 ((i : Int) + 1) = ((i + 1 : Nat) : Int) := by rw [wrap64 (by omega)]; rfl
            simp (maxSteps := 1000000) (disch := first | decide | omega | (simp only [go_sem]; first | done | omega)) only [go_sem, Int.reduceToNat, Nat.reduceMul, Nat.reduceAdd, Nat.reduceSub, ↓EU_region, ↓EU_draw, g0, g1', g21, g22, d1, hpp, hwi]
            refine ⟨16 - (i + 1), by omega, i + 1, _, _, rfl, rfl, by omega, by simp (maxSteps := 1000000) (disch := first | decide | omega | (simp only [go_sem]; first | done | omega)) only [go_sem, Int.reduceToNat, Nat.reduceMul, Nat.reduceAdd, Nat.reduceSub, ↓EU_region, ↓EU_draw, g0], by simp (maxSteps := 1000000) (disch := first | decide | omega | (simp only [go_sem]; first | done | omega)) only [go_sem, Int.reduceToNat, Nat.reduceMul, Nat.reduceAdd, Nat.reduceSub, ↓EU_region, ↓EU_draw, g1'], by simp (maxSteps := 1000000) (disch := first | decide | omega | (simp only [go_sem]; first | done | omega)) only [go_sem, Int.reduceToNat, Nat.reduceMul, Nat.reduceAdd, Nat.reduceSub, ↓EU_region, ↓EU_draw, g21], by simp (maxSteps := 1000000) (disch := first | decide | omega | (simp only [go_sem]; first | done | omega)) only [go_sem, Int.reduceToNat, Nat.reduceMul, Nat.reduceAdd, Nat.reduceSub, ↓EU_region, ↓EU_draw], fun j hj => ?_, x'.push _⟩
            by_cases e : j = i
            · subst e; rw [he]
            · exact ha j (by omega)
          | false =>
            have hfr := freeR_hit gl i 0 ha (by rw [g.2.1]; exact q) (by rw [he])
            rw [Nat.zero_add] at hfr
            have gc := g2.1
            have gB := g2.2.2
            have hwr : wrc (h'.push (.cells [.bool false, .int .i64 xu] 0)) B (i * 2) [.bool true, .int .i64 up] (.cells (gl.flatMap gE) 0) = some ((h'.push (.cells [.bool false, .int .i64 xu] 0)).set B (.cells ((gl.set i (true, up)).flatMap gE) 0)) := by
              rw [wrc_c _ _ _ _ _ _ (by rw [gE_flat_len, g.2.1]; simp only [List.length_cons, List.length_nil]; omega) rfl]
              rw [← gE_set gl i (true, up) (by rw [g.2.1]; exact q)]
              rfl
            simp (maxSteps := 1000000) (disch := first | decide | omega | (simp only [go_sem]; first | done | omega)) only [go_sem, Int.reduceToNat, Nat.reduceMul, Nat.reduceAdd, Nat.reduceSub, ↓EU_region, ↓EU_draw, g0, g1', g21, g22, d1, hpp, gc, hwr]
            refine ⟨_, _, rfl, .inr ⟨trivial, i, hfr, by simp (maxSteps := 1000000) (disch := first | decide | omega | (simp only [go_sem]; first | done | omega)) only [go_sem, Int.reduceToNat, Nat.reduceMul, Nat.reduceAdd, Nat.reduceSub, ↓EU_region, ↓EU_draw], by simp (maxSteps := 1000000) (disch := first | decide | omega | (simp only [go_sem]; first | done | omega)) only [go_sem, Int.reduceToNat, Nat.reduceMul, Nat.reduceAdd, Nat.reduceSub, ↓EU_region, ↓EU_draw], ⟨get_set_same _ _ _, by rw [List.length_set]; exact g.2.1, by rw [next_set, next_push]; omega⟩, ((x'.push _).mod _).set _ _ (fun _ => rfl)⟩⟩
        · have d1 : decide ((i : Int) < 16) = false := decide_eq_false (by omega)
          have e6 : i = 16 := by omega
          subst e6
          simp (maxSteps := 1000000) (disch := first | decide | omega | (simp only [go_sem]; first | done | omega)) only [go_sem, Int.reduceToNat, Nat.reduceMul, Nat.reduceAdd, Nat.reduceSub, ↓EU_region, ↓EU_draw, g0, g1', g21, g22, d1]
          exact ⟨_, h', rfl, .inl ⟨trivial, freeR_miss gl 0 (fun j hj => ha j (by rw [← g.2.1]; exact hj)), x'⟩⟩
      · exact ⟨0, _, h1, rfl, rfl, by decide, by simp (maxSteps := 1000000) (disch := first | decide | omega | (simp only [go_sem]; first | done | omega)) only [go_sem, Int.reduceToNat, Nat.reduceMul, Nat.reduceAdd, Nat.reduceSub, ↓EU_region, ↓EU_draw], by simp (maxSteps := 1000000) (disch := first | decide | omega | (simp only [go_sem]; first | done | omega)) only [go_sem, Int.reduceToNat, Nat.reduceMul, Nat.reduceAdd, Nat.reduceSub, ↓EU_region, ↓EU_draw], by simp (maxSteps := 1000000) (disch := first | decide | omega | (simp only [go_sem]; first | done | omega)) only [go_sem, Int.reduceToNat, Nat.reduceMul, Nat.reduceAdd, Nat.reduceSub, ↓EU_region, ↓EU_draw], by simp (maxSteps := 1000000) (disch := first | decide | omega | (simp only [go_sem]; first | done | omega)) only [go_sem, Int.reduceToNat, Nat.reduceMul, Nat.reduceAdd, Nat.reduceSub, ↓EU_region, ↓EU_draw]; rfl, fun j hj => by omega, Ext.refl _⟩
      · decide
      · rintro ⟨_, _⟩ ⟨tm, h', rfl, ⟨rfl, hf, x'⟩ | ⟨rfl, k, hf, g4, g5, gr, m⟩⟩
        · rw [hf]
          simp (maxSteps := 1000000) (disch := first | decide | omega | (simp only [go_sem]; first | done | omega)) only [go_sem, Int.reduceToNat, Nat.reduceMul, Nat.reduceAdd, Nat.reduceSub, ↓EU_region, ↓EU_draw]
          exact ⟨trivial, g1.ext x', (x1.trans x').mod _⟩
        · rw [hf]
          simp (maxSteps := 1000000) (disch := first | decide | omega | (simp only [go_sem]; first | done | omega)) only [go_sem, Int.reduceToNat, Nat.reduceMul, Nat.reduceAdd, Nat.reduceSub, ↓EU_region, ↓EU_draw, g4, g5]
          exact ⟨trivial, gr, (x1.mod _).trans m⟩
end Go.Proofs.Ytagjgigknnaphaa.EV
