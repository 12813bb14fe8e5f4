/- Stable sorting, plainly: ranges turned round; two rows in one. No condition. -/
import Derived.Test.YtoomhlfogeglcaaSt3
namespace Go.Proofs.Ytoomhlfogeglcaa.EV
open Go Go.Proofs
set_option linter.unusedVariables false
set_option linter.unusedSimpArgs false
set_option maxRecDepth 100000
set_option pp.deepTerms false
set_option pp.deepTerms.threshold 20
/-- each of one range ahead of each of another -/
noncomputable def AllLt (F : Int → Int) (l : List Int) (a b c d : Nat) : Prop := ∀ (i j : Nat) (x y : Int), a ≤ i → i < b → c ≤ j → j < d → l[i]? = some x → l[j]? = some y → ltF F x y
noncomputable def AscX (l : List Int) (a m b : Nat) : Prop := ∀ (i j : Nat) (x y : Int), a ≤ i → i < m → m ≤ j → j < b → l[i]? = some x → l[j]? = some y → x < y
section
variable {F : Int → Int} {l l' l2 : List Int} {a m b p r : Nat}
theorem rt_id (h : p = m ∨ r = m) (hp : p ≤ m) (hr : m ≤ r) (k : Nat) : rtM p m r k = k := by
  unfold rtM
  (repeat' split) <;> omega
theorem rt_srt (hp : a ≤ p ∧ p ≤ m ∧ m ≤ r ∧ r ≤ b) (sU : SrtOn F l a m) (sV : SrtOn F l m b) (r2 : AllLt F l m r p m) (r1 : AllLt F l p m r b) (r3 : AllLt F l a p m r) (r4 : AllLt F l a p r b) (e : ∀ k, l'[k]? = l[rtM p m r k]?) : SrtOn F l' a b := by
  intro i j x y h1 h2 h3 hx hy
  rw [e] at hx hy
  unfold rtM at hx hy
  by_cases i1 : p ≤ i ∧ i < p + (r - m)
  · rw [if_pos i1] at hx
    by_cases j1 : p ≤ j ∧ j < p + (r - m)
    · rw [if_pos j1] at hy
      exact sV _ _ x y (by omega) (by omega) (by omega) hx hy
    · rw [if_neg j1] at hy
      by_cases j2 : p + (r - m) ≤ j ∧ j < r
      · rw [if_pos j2] at hy
        exact r2 _ _ x y (by omega) (by omega) (by omega) (by omega) hx hy
      · rw [if_neg j2] at hy
        exact sV _ _ x y (by omega) (by omega) (by omega) hx hy
  · rw [if_neg i1] at hx
    by_cases i2 : p + (r - m) ≤ i ∧ i < r
    · rw [if_pos i2] at hx
      rw [if_neg (by omega)] at hy
      by_cases j2 : p + (r - m) ≤ j ∧ j < r
      · rw [if_pos j2] at hy
        exact sU _ _ x y (by omega) (by omega) (by omega) hx hy
      · rw [if_neg j2] at hy
        exact r1 _ _ x y (by omega) (by omega) (by omega) (by omega) hx hy
    · rw [if_neg i2] at hx
      by_cases j1 : p ≤ j ∧ j < p + (r - m)
      · rw [if_pos j1] at hy
        exact r3 _ _ x y (by omega) (by omega) (by omega) (by omega) hx hy
      · rw [if_neg j1] at hy
        by_cases j2 : p + (r - m) ≤ j ∧ j < r
        · rw [if_pos j2] at hy
          exact sU _ _ x y (by omega) (by omega) (by omega) hx hy
        · rw [if_neg j2] at hy
          by_cases i3 : i < p
          · by_cases j3 : j < p
            · exact sU _ _ x y (by omega) (by omega) (by omega) hx hy
            · exact r4 _ _ x y (by omega) (by omega) (by omega) (by omega) hx hy
          · exact sV _ _ x y (by omega) (by omega) (by omega) hx hy
/-- the rows turned round, in two: each in two rows in order -/
theorem rt_one (hp : a ≤ p ∧ p ≤ m ∧ m ≤ r ∧ r ≤ b) (sU : SrtOn F l a m) (sV : SrtOn F l m b) (asc : AscX l a m b) (e : ∀ k, l'[k]? = l[rtM p m r k]?) :
    SrtOn F l' a p ∧ SrtOn F l' p (p + (r - m)) ∧ SrtOn F l' (p + (r - m)) r ∧ SrtOn F l' r b ∧ AscX l' a p (p + (r - m)) ∧ AscX l' (p + (r - m)) r b := by
  have f1 : ∀ k, k < p → l'[k]? = l[k]? := fun k hk => by
    rw [e]; congr 1; unfold rtM; (repeat' split) <;> omega
  have f2 : ∀ k, p ≤ k → k < p + (r - m) → l'[k]? = l[k - p + m]? := fun k h1 h2 => by
    rw [e]; congr 1; unfold rtM; (repeat' split) <;> omega
  have f3 : ∀ k, p + (r - m) ≤ k → k < r → l'[k]? = l[k - (r - m)]? := fun k h1 h2 => by
    rw [e]; congr 1; unfold rtM; (repeat' split) <;> omega
  have f4 : ∀ k, r ≤ k → l'[k]? = l[k]? := fun k h1 => by
    rw [e]; congr 1; unfold rtM; (repeat' split) <;> omega
  refine ⟨fun i j x y h1 h2 h3 hx hy => ?_, fun i j x y h1 h2 h3 hx hy => ?_, fun i j x y h1 h2 h3 hx hy => ?_, fun i j x y h1 h2 h3 hx hy => ?_, fun i j x y h1 h2 h3 h4 hx hy => ?_, fun i j x y h1 h2 h3 h4 hx hy => ?_⟩
  · rw [f1 _ (by omega)] at hx hy
    exact sU _ _ x y h1 h2 (by omega) hx hy
  · rw [f2 _ (by omega) (by omega)] at hx hy
    exact sV _ _ x y (by omega) (by omega) (by omega) hx hy
  · rw [f3 _ (by omega) (by omega)] at hx hy
    exact sU _ _ x y (by omega) (by omega) (by omega) hx hy
  · rw [f4 _ (by omega)] at hx hy
    exact sV _ _ x y (by omega) (by omega) (by omega) hx hy
  · rw [f1 _ (by omega)] at hx
    rw [f2 _ (by omega) (by omega)] at hy
    exact asc _ _ x y h1 (by omega) (by omega) (by omega) hx hy
  · rw [f3 _ (by omega) (by omega)] at hx
    rw [f4 _ (by omega)] at hy
    exact asc _ _ x y (by omega) (by omega) (by omega) (by omega) hx hy
theorem rt_cross (hp : a ≤ p ∧ p ≤ m ∧ m ≤ r ∧ r ≤ b) (sU : SrtOn F l a m) (sV : SrtOn F l m b) (r1 : AllLt F l a p r b) (r2 : AllLt F l m r p m) (e : ∀ k, l'[k]? = l[rtM p m r k]?) : AllLt F l' a (p + (r - m)) (p + (r - m)) b := by
  intro i j x y h1 h2 h3 h4 hx hy
  rw [e] at hx hy
  unfold rtM at hx hy
  rw [if_neg (by omega)] at hy
  by_cases i1 : p ≤ i ∧ i < p + (r - m)
  · rw [if_pos i1] at hx
    by_cases j2 : p + (r - m) ≤ j ∧ j < r
    · rw [if_pos j2] at hy
      exact r2 _ _ x y (by omega) (by omega) (by omega) (by omega) hx hy
    · rw [if_neg j2] at hy
      exact sV _ _ x y (by omega) (by omega) (by omega) hx hy
  · rw [if_neg i1, if_neg (by omega)] at hx
    by_cases j2 : p + (r - m) ≤ j ∧ j < r
    · rw [if_pos j2] at hy
      exact sU _ _ x y (by omega) (by omega) (by omega) hx hy
    · rw [if_neg j2] at hy
      exact r1 _ _ x y (by omega) (by omega) (by omega) (by omega) hx hy
theorem rt_RP (hp : a ≤ p ∧ p ≤ m ∧ m ≤ r ∧ r ≤ b) (pm : l'.Perm l) (e : ∀ k, l'[k]? = l[rtM p m r k]?) : RP a b l l' :=
  ⟨pm, fun k hk => by rw [e]; congr 1; unfold rtM; (repeat' split) <;> omega, fun k h1 h2 => ⟨rtM p m r k, by unfold rtM; (repeat' split) <;> omega, by unfold rtM; (repeat' split) <;> omega, e k⟩⟩
/-- two halves, each in order, each of one ahead of each of the other -/
theorem halves (h1 : SrtOn F l a m) (h2 : SrtOn F l m b) (h3 : AllLt F l a m m b) : SrtOn F l a b := by
  intro i j x y k1 k2 k3 hx hy
  by_cases q : j < m
  · exact h1 i j x y k1 k2 q hx hy
  · by_cases q2 : i < m
    · exact h3 i j x y k1 q2 (by omega) k3 hx hy
    · exact h2 i j x y (by omega) k2 k3 hx hy
theorem AllLt.mem {c d : Nat} (h : AllLt F l a b c d) (k1 : ∀ k, a ≤ k → k < b → ∃ k', a ≤ k' ∧ k' < b ∧ l'[k]? = l[k']?) (k2 : ∀ k, c ≤ k → k < d → ∃ k', c ≤ k' ∧ k' < d ∧ l'[k]? = l[k']?) : AllLt F l' a b c d := by
  intro i j x y h1 h2 h3 h4 hx hy
  obtain ⟨i', i1, i2, ei⟩ := k1 i h1 h2
  obtain ⟨j', j1, j2, ej⟩ := k2 j h3 h4
  exact h i' j' x y i1 i2 j1 j2 (by rw [← ei]; exact hx) (by rw [← ej]; exact hy)
/-- out of what holds at the bounds -/
theorem all_of (hp : p ≤ m) (hr : r ≤ b) (sU : SrtOn F l a m) (sV : SrtOn F l m b) (hmr : m ≤ r) (h : p = a ∨ r = b ∨ ∃ x y, l[p - 1]? = some x ∧ l[r]? = some y ∧ ltF F x y) : AllLt F l a p r b := by
  intro i j x y h1 h2 h3 h4 hx hy
  rcases h with e | e | ⟨u, v, hu, hv, huv⟩
  · omega
  · omega
  · have k1 : x = u ∨ ltF F x u := by
      by_cases q : i = p - 1
      · subst q; rw [hx] at hu; exact .inl (Option.some.inj hu)
      · exact .inr (sU i (p - 1) x u h1 (by omega) (by omega) hx hu)
    have k2 : v = y ∨ ltF F v y := by
      by_cases q : j = r
      · subst q; rw [hv] at hy; exact .inl (Option.some.inj hy)
      · exact .inr (sV r j v y hmr (by omega) h4 hv hy)
    rcases k1 with rfl | k1
    · rcases k2 with rfl | k2
      · exact huv
      · exact huv.tr k2
    · rcases k2 with rfl | k2
      · exact k1.tr huv
      · exact k1.tr (huv.tr k2)
theorem all_of' (hp : a ≤ p) (hmr : m ≤ r) (hr : r ≤ b) (hpm : p ≤ m) (sU : SrtOn F l a m) (sV : SrtOn F l m b) (h : p = m ∨ r = m ∨ ∃ x y, l[r - 1]? = some x ∧ l[p]? = some y ∧ ltF F x y) : AllLt F l m r p m := by
  intro i j x y h1 h2 h3 h4 hx hy
  rcases h with e | e | ⟨u, v, hu, hv, huv⟩
  · omega
  · omega
  · have k1 : x = u ∨ ltF F x u := by
      by_cases q : i = r - 1
      · subst q; rw [hx] at hu; exact .inl (Option.some.inj hu)
      · exact .inr (sV i (r - 1) x u h1 (by omega) (by omega) hx hu)
    have k2 : v = y ∨ ltF F v y := by
      by_cases q : j = p
      · subst q; rw [hv] at hy; exact .inl (Option.some.inj hy)
      · exact .inr (sU p j v y hp (by omega) h4 hv hy)
    rcases k1 with rfl | k1
    · rcases k2 with rfl | k2
      · exact huv
      · exact huv.tr k2
    · rcases k2 with rfl | k2
      · exact k1.tr huv
      · exact k1.tr (huv.tr k2)
end
end Go.Proofs.Ytoomhlfogeglcaa.EV
