/- Contracts: sorting, stable: two places changed; ranges changed. No condition. -/
import Derived.Test.YtoomhlfogeglcaaWt2
namespace Go.Proofs.Ytoomhlfogeglcaa.EV
open Go Go.Proofs
set_option linter.unusedVariables false
set_option linter.unusedSimpArgs false
set_option maxRecDepth 100000
set_option pp.deepTerms false
set_option pp.deepTerms.threshold 20
noncomputable def cmpI (a b : Int) : Int := if a < b then -1 else if b < a then 1 else 0
theorem cmpI_cases (x y : Int) : (x < y ∧ cmpI x y = -1) ∨ (x = y ∧ cmpI x y = 0) ∨ (y < x ∧ cmpI x y = 1) := by
  unfold cmpI
  by_cases h1 : x < y
  · exact .inl ⟨h1, by rw [if_pos h1]⟩
  · by_cases h2 : y < x
    · exact .inr (.inr ⟨h2, by rw [if_neg h1, if_pos h2]⟩)
    · exact .inr (.inl ⟨by omega, by rw [if_neg h1, if_neg h2]⟩)
theorem cmpI_lt (x y : Int) : decide (cmpI x y < 0) = decide (x < y) := by
  rcases cmpI_cases x y with ⟨h, e⟩ | ⟨h, e⟩ | ⟨h, e⟩
  · rw [e, decide_eq_true h]; rfl
  · rw [e, decide_eq_false (by omega : ¬ x < y)]; rfl
  · rw [e, decide_eq_false (by omega : ¬ x < y)]; rfl
theorem cmp64_ev (a b : Int) (h : Heap) : EF Try.prog O0 27 [.int .i64 a, .int .i64 b] h = some (.int .i64 (cmpI a b), h) := by
  have : WPo (EF Try.prog O0 27 [.int .i64 a, .int .i64 b] h) fun q => q = (.int .i64 (cmpI a b), h) := by
    have hn : ∀ (x : Int) (h : Heap), EF Try.prog O0 34 [.int .i64 x] h = some (.bool false, h) := fun x h => by
      have : WPo (EF Try.prog O0 34 [.int .i64 x] h) fun q => q = (.bool false, h) := by
        rw [EF_body (O := O0) (by kernel_rfl) Try.func34 rfl (rs := [.tmp 2]) rfl (bad := []) (by kernel_rfl) _ _ (m := 6) rfl]
        have dt : decide (x = x) = true := decide_eq_true rfl
        simp (maxSteps := 1000000) (disch := first | decide | omega | (simp only [go_sem]; first | done | omega)) only [go_sem, Int.reduceToNat, Nat.reduceMul, Nat.reduceAdd, Nat.reduceSub, ↓EU_region, ↓EU_draw, dec_t, dec_f, dt]
      obtain ⟨q, e, rfl⟩ := this
      exact e
    rw [EF_body (O := O0) (by kernel_rfl) Try.func27 rfl (rs := [.tmp 4]) rfl (bad := []) (by kernel_rfl) _ _ (m := 20) rfl]
    rcases cmpI_cases a b with ⟨h1, e1⟩ | ⟨h1, e1⟩ | ⟨h1, e1⟩
    · have d1 : decide (a < b) = true := decide_eq_true h1
      simp (maxSteps := 1000000) (disch := first | decide | omega | (simp only [go_sem]; first | done | omega)) only [go_sem, Int.reduceToNat, Nat.reduceMul, Nat.reduceAdd, Nat.reduceSub, ↓EU_region, ↓EU_draw, hn, d1, e1]
    · have d1 : decide (a < b) = false := decide_eq_false (by omega)
      have d2 : decide (a > b) = false := decide_eq_false (by omega)
      simp (maxSteps := 1000000) (disch := first | decide | omega | (simp only [go_sem]; first | done | omega)) only [go_sem, Int.reduceToNat, Nat.reduceMul, Nat.reduceAdd, Nat.reduceSub, ↓EU_region, ↓EU_draw, hn, d1, d2, e1]
    · have d1 : decide (a < b) = false := decide_eq_false (by omega)
      have d2 : decide (a > b) = true := decide_eq_true (by omega)
      simp (maxSteps := 1000000) (disch := first | decide | omega | (simp only [go_sem]; first | done | omega)) only [go_sem, Int.reduceToNat, Nat.reduceMul, Nat.reduceAdd, Nat.reduceSub, ↓EU_region, ↓EU_draw, hn, d1, d2, e1]
  obtain ⟨q, e, rfl⟩ := this
  exact e
/-- a row that is sorted in place: what else lay there lies as it lay -/
structure SS (h0 : Heap) (s : Value) (h : Heap) (l : List Int) : Prop where
  ow : OW (intE .i64) 1 h s l
  md : Mod (blkOf s) h0 h
/-- who compares, whatever is in the row -/
noncomputable def CMP (fv : Value) (F : Int → Int) (ok : Int → Prop) (s : Value) (h0 : Heap) : Prop := ∀ h', Mod (blkOf s) h0 h' → ∀ x y, ok x → ok y → CALLV Try.prog O0 h' [.int .i64 x, .int .i64 y] fv = some (.int .i64 (cmpI (F x) (F y)), h')
noncomputable def swL (l : List Int) (i j : Nat) (x y : Int) : List Int := (l.set i y).set j x
theorem swL_len (l : List Int) (i j : Nat) (x y : Int) : (swL l i j x y).length = l.length := by unfold swL; rw [List.length_set, List.length_set]
theorem swL_get {l : List Int} {i j : Nat} {x y : Int} (hi : i < l.length) (hj : j < l.length) (n : Nat) : (swL l i j x y)[n]? = if n = j then some x else if n = i then some y else l[n]? := by
  unfold swL
  rw [List.getElem?_set, List.length_set, List.getElem?_set]
  by_cases q : n = j
  · rw [if_pos q.symm, if_pos hj, if_pos q]
  · rw [if_neg (fun e => q e.symm), if_neg q]
    by_cases q2 : n = i
    · rw [if_pos q2.symm, if_pos hi, if_pos q2]
    · rw [if_neg (fun e => q2 e.symm), if_neg q2]
theorem swL_perm {l : List Int} {i j : Nat} {x y : Int} (hx : l[i]? = some x) (hy : l[j]? = some y) : (swL l i j x y).Perm l := by
  obtain ⟨hi, rfl⟩ := List.getElem?_eq_some_iff.1 hx
  obtain ⟨hj, rfl⟩ := List.getElem?_eq_some_iff.1 hy
  unfold swL
  exact List.set_set_perm hi hj
theorem SS.swap {h0 h : Heap} {s : Value} {l : List Int} (q : SS h0 s h l) {i j : Nat} {x y : Int} (hx : l[i]? = some x) (hy : l[j]? = some y) :
    ∃ b o c cs, s = .slice (some ⟨b, o, none⟩) l.length c ∧ b < h.next ∧ h.get b = .cells cs 1 ∧ cs[o + i]? = some (.int .i64 x) ∧ cs[o + j]? = some (.int .i64 y) ∧ o + i < cs.length ∧ o + j < (cs.set (o + i) (.int .i64 y)).length ∧ SS h0 s (h.set b (.cells ((cs.set (o + i) (.int .i64 y)).set (o + j) (.int .i64 x)) 1)) (swL l i j x y) := by
  have hi := (List.getElem?_eq_some_iff.1 hx).1
  have hj := (List.getElem?_eq_some_iff.1 hy).1
  obtain ⟨b, o, c, cs, rfl, hb, hc, hl, hp⟩ := q.ow.put i64_len i y hi
  obtain ⟨b', o', c', e, _, _, hr⟩ := q.ow.sl.at hx rfl
  cases e
  have hr0 := hr 0 _ rfl
  rw [Nat.add_zero, hc, rdc1_c] at hr0
  obtain ⟨b', o', c', e, _, _, hr⟩ := q.ow.sl.at hy rfl
  cases e
  have hr1 := hr 0 _ rfl
  rw [Nat.add_zero, hc, rdc1_c] at hr1
  obtain ⟨b', o', c', cs2, e, _, hc2, hl2, hp2⟩ := hp.put i64_len j x (by rw [List.length_set]; exact hj)
  rw [List.length_set] at e
  cases e
  rw [get_set_same] at hc2
  cases hc2
  rw [set_set] at hp2
  rw [Nat.mul_one] at hr0 hr1 hl hl2 hp2
  rw [Nat.mul_one] at hp2
  rw [splice_len] at hl2
  refine ⟨b, o, c, cs, rfl, hb, hc, hr0, hr1, by omega, by rw [List.length_set]; omega, ?_, ?_⟩
  · exact hp2
  · exact q.md.trans ((Mod.refl _ _).set _ _ (fun _ => rfl))
end Go.Proofs.Ytoomhlfogeglcaa.EV
