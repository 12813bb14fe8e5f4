/- Heaps, plainly: what holds but at one place; an exchange with the one ahead, with the least behind. No condition. -/
import Derived.Test.YtbbdhpjkibbnkaaOq1
namespace Go.Proofs.Ytbbdhpjkibbnkaa.EV
open Go Go.Proofs
set_option linter.unusedVariables false
set_option linter.unusedSimpArgs false
theorem ltQ_irrefl (x : QI) : ¬ ltQ x x := by unfold ltQ; omega
theorem ltQ_asymm {x y : QI} (h : ltQ x y) : ¬ ltQ y x := by unfold ltQ at *; omega
theorem leQ_trans {x y z : QI} (h : ¬ ltQ y x) (k : ¬ ltQ z y) : ¬ ltQ z x := by unfold ltQ at *; omega
/-- the one at j is no less than the one ahead of it -/
noncomputable def okA (l : List QI) (j : Nat) : Prop := ∀ x y, l[j]? = some x → l[(j - 1) / 2]? = some y → ¬ ltQ x y
noncomputable def HP (l : List QI) : Prop := ∀ j, 0 < j → okA l j
/-- but at i -/
noncomputable def HX (l : List QI) (i : Nat) : Prop := (∀ j, 0 < j → j ≠ i → (j - 1) / 2 ≠ i → okA l j) ∧ (0 < i → ∀ j x y, 0 < j → (j - 1) / 2 = i → l[j]? = some x → l[(i - 1) / 2]? = some y → ¬ ltQ x y)
/-- but behind i -/
noncomputable def HD (l : List QI) (i : Nat) : Prop := (∀ j, 0 < j → (j - 1) / 2 ≠ i → okA l j) ∧ (0 < i → ∀ j x y, 0 < j → (j - 1) / 2 = i → l[j]? = some x → l[(i - 1) / 2]? = some y → ¬ ltQ x y)
theorem HP.hx {l : List QI} (h : HP l) (i : Nat) (hp : ∀ j x y z, 0 < i → 0 < j → (j - 1) / 2 = i → l[j]? = some x → l[i]? = some z → l[(i - 1) / 2]? = some y → ¬ ltQ x y) : HX l i :=
  ⟨fun j h0 _ _ => h j h0, fun hi j x y h0 hj hx hy => by
    cases hz : l[i]? with
    | some z => exact hp j x y z hi h0 hj hx hz hy
    | none =>
      have h1 := (List.getElem?_eq_some_iff.1 hx).1
      have h2 := List.getElem?_eq_none_iff.1 hz
      omega⟩
theorem HX.down {l : List QI} {i : Nat} (h : HX l i) (hi : i = 0 ∨ okA l i) : HD l i :=
  ⟨fun j h0 hj => by
    by_cases q : j = i
    · subst q
      rcases hi with r | r
      · omega
      · exact r
    · exact h.1 j h0 q hj, h.2⟩
theorem HX.up {l : List QI} {i : Nat} {x y : QI} (h : HX l i) (hi : 0 < i) (hx : l[i]? = some x) (hy : l[(i - 1) / 2]? = some y) (hlt : ltQ x y) : HX (swapL l i ((i - 1) / 2) x y) ((i - 1) / 2) := by
  have li := (List.getElem?_eq_some_iff.1 hx).1
  have lp := (List.getElem?_eq_some_iff.1 hy).1
  obtain ⟨p, hp⟩ : ∃ p, p = (i - 1) / 2 := ⟨_, rfl⟩
  rw [← hp] at hy lp ⊢
  have hg := swapL_get (x := x) (y := y) li lp
  have hpi : p ≠ i := by omega
  refine ⟨fun j h0 hjp hpp a b ha hb => ?_, fun hp0 j a b h0 hj ha hb => ?_⟩
  · rw [hg] at ha hb
    rw [if_neg hjp] at ha
    rw [if_neg hpp] at hb
    by_cases q : j = i
    · subst q; exact absurd hp.symm hpp
    · rw [if_neg q] at ha
      by_cases r : (j - 1) / 2 = i
      · rw [if_pos r] at hb
        cases hb
        exact h.2 hi j a y h0 r ha (by rw [← hp]; exact hy)
      · rw [if_neg r] at hb
        exact h.1 j h0 q r a b ha hb
  · rw [hg] at ha hb
    have hjp : j ≠ p := by omega
    rw [if_neg hjp] at ha
    have e1 : (p - 1) / 2 ≠ p := by omega
    have e2 : (p - 1) / 2 ≠ i := by omega
    rw [if_neg e1, if_neg e2] at hb
    have hpp : ¬ ltQ y b := h.1 p hp0 hpi (by omega) y b hy hb
    by_cases q : j = i
    · rw [if_pos q] at ha
      cases ha
      exact hpp
    · rw [if_neg q] at ha
      have : ¬ ltQ a y := h.1 j h0 q (by omega) a y ha (by rw [hj]; exact hy)
      exact leQ_trans hpp this
theorem HD.stop {l : List QI} {i : Nat} (h : HD l i) (hc : ∀ j x y, 0 < j → (j - 1) / 2 = i → l[j]? = some x → l[i]? = some y → ¬ ltQ x y) : HP l := fun j h0 => by
  by_cases q : (j - 1) / 2 = i
  · intro x y hx hy
    rw [q] at hy
    exact hc j x y h0 q hx hy
  · exact h.1 j h0 q
theorem HD.step {l : List QI} {i k : Nat} {x y : QI} (h : HD l i) (hk0 : 0 < k) (hk : (k - 1) / 2 = i) (hx : l[i]? = some x) (hy : l[k]? = some y) (hlt : ltQ y x) (hs : ∀ j z, 0 < j → (j - 1) / 2 = i → l[j]? = some z → ¬ ltQ z y) : HD (swapL l i k x y) k := by
  have li := (List.getElem?_eq_some_iff.1 hx).1
  have lk := (List.getElem?_eq_some_iff.1 hy).1
  have hg := swapL_get (x := x) (y := y) li lk
  have hik : i ≠ k := by omega
  refine ⟨fun j h0 hj a b ha hb => ?_, fun _ j a b h0 hj ha hb => ?_⟩
  · rw [hg] at ha hb
    rw [if_neg hj] at hb
    by_cases q : j = k
    · rw [if_pos q] at ha
      cases ha
      rw [q, hk, if_pos rfl] at hb
      cases hb
      exact ltQ_asymm hlt
    · rw [if_neg q] at ha
      by_cases r : j = i
      · rw [if_pos r] at ha
        cases ha
        subst r
        rw [if_neg (by omega)] at hb
        exact h.2 h0 k y b hk0 hk hy hb
      · rw [if_neg r] at ha
        by_cases t : (j - 1) / 2 = i
        · rw [if_pos t] at hb
          cases hb
          exact hs j a h0 t ha
        · rw [if_neg t] at hb
          exact h.1 j h0 t a b ha hb
  · rw [hg] at ha hb
    have e1 : j ≠ k := by omega
    have e2 : j ≠ i := by omega
    rw [if_neg e1, if_neg e2] at ha
    rw [hk, if_neg hik, if_pos rfl] at hb
    cases hb
    exact h.1 j h0 (by omega) a y ha (by rw [hj]; exact hy)
theorem swapL_perm {l : List QI} {i j : Nat} {x y : QI} (hx : l[i]? = some x) (hy : l[j]? = some y) : (swapL l i j x y).Perm l := by
  have li := (List.getElem?_eq_some_iff.1 hx)
  have lj := (List.getElem?_eq_some_iff.1 hy)
  obtain ⟨hi, rfl⟩ := li
  obtain ⟨hj, rfl⟩ := lj
  unfold swapL
  exact List.set_set_perm hi hj
/-- how many bits -/
noncomputable def bl : Nat → Nat
  | 0 => 0
  | n + 1 => bl ((n + 1) / 2) + 1
theorem bl_s {n : Nat} (h : 0 < n) : bl n = bl (n / 2) + 1 := by
  obtain ⟨m, rfl⟩ : ∃ m, n = m + 1 := ⟨n - 1, by omega⟩
  rw [bl]
theorem bl_pos {n : Nat} (h : 0 < n) : 1 ≤ bl n := by rw [bl_s h]; omega
theorem bl_lt : ∀ (k n : Nat), n < 2 ^ k → bl n ≤ k
  | 0, n, h => by
    have : n = 0 := by simpa using h
    subst this
    rw [bl]
    exact Nat.le_refl _
  | k + 1, n, h => by
    by_cases q : n = 0
    · subst q; rw [bl]; omega
    · rw [bl_s (by omega)]
      have := bl_lt k (n / 2) (by rw [Nat.pow_succ] at h; omega)
      omega
theorem bl_ge : ∀ (k n : Nat), 2 ^ k ≤ n → k < bl n
  | 0, n, h => bl_pos h
  | k + 1, n, h => by
    rw [Nat.pow_succ] at h
    have hp : 0 < 2 ^ k := Nat.two_pow_pos k
    rw [bl_s (by omega)]
    have := bl_ge k (n / 2) (by omega)
    omega
theorem bl_mono : ∀ {m n : Nat}, n ≤ m → bl n ≤ bl m := by
  intro m
  induction m using Nat.strongRecOn with
  | ind m ih =>
    intro n h
    by_cases q : n = 0
    · subst q; rw [bl]; exact Nat.zero_le _
    · rw [bl_s (n := n) (by omega), bl_s (n := m) (by omega)]
      have := ih (m / 2) (by omega) (n := n / 2) (by omega)
      omega
end Go.Proofs.Ytbbdhpjkibbnkaa.EV
