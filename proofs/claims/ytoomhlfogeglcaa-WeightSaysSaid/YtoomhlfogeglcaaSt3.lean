/- Contracts: sorting, stable: by insertion. No condition. -/
import Derived.Test.YtoomhlfogeglcaaSt2
namespace Go.Proofs.Ytoomhlfogeglcaa.EV
open Go Go.Proofs
set_option linter.unusedVariables false
set_option linter.unusedSimpArgs false
set_option maxRecDepth 100000
set_option pp.deepTerms false
set_option pp.deepTerms.threshold 20
/-- in order: by what F tells, then by number -/
noncomputable def ltF (F : Int → Int) (x y : Int) : Prop := F x < F y ∨ (F x = F y ∧ x < y)
theorem ltF.tr {F : Int → Int} {x y z : Int} (h : ltF F x y) (k : ltF F y z) : ltF F x z := by unfold ltF at *; omega
noncomputable def SrtOn (F : Int → Int) (l : List Int) (a b : Nat) : Prop := ∀ (i j : Nat) (x y : Int), a ≤ i → i < j → j < b → l[i]? = some x → l[j]? = some y → ltF F x y
noncomputable def AscOn (l : List Int) (a b : Nat) : Prop := ∀ (i j : Nat) (x y : Int), a ≤ i → i < j → j < b → l[i]? = some x → l[j]? = some y → x < y
/-- changed in a range alone -/
structure RP (a b : Nat) (l l' : List Int) : Prop where
  pm : l'.Perm l
  out : ∀ k, (k < a ∨ b ≤ k) → l'[k]? = l[k]?
  ins : ∀ k, a ≤ k → k < b → ∃ k', a ≤ k' ∧ k' < b ∧ l'[k]? = l[k']?
section
variable {a b c d : Nat} {l l' l2 : List Int} {F : Int → Int}
theorem RP.refl (a b : Nat) (l : List Int) : RP a b l l := ⟨List.Perm.refl _, fun _ _ => rfl, fun k h1 h2 => ⟨k, h1, h2, rfl⟩⟩
theorem RP.trans (h : RP a b l l') (k : RP a b l' l2) : RP a b l l2 := ⟨k.pm.trans h.pm, fun i hi => (k.out i hi).trans (h.out i hi), fun i h1 h2 => by
  obtain ⟨j, h3, h4, e⟩ := k.ins i h1 h2
  obtain ⟨j', h5, h6, e'⟩ := h.ins j h3 h4
  exact ⟨j', h5, h6, e.trans e'⟩⟩
theorem RP.mono (h : RP a b l l') (ha : c ≤ a) (hb : b ≤ d) : RP c d l l' := ⟨h.pm, fun i hi => h.out i (by omega), fun i h1 h2 => by
  by_cases q : a ≤ i ∧ i < b
  · obtain ⟨j, h3, h4, e⟩ := h.ins i q.1 q.2
    exact ⟨j, by omega, by omega, e⟩
  · exact ⟨i, h1, h2, h.out i (by omega)⟩⟩
theorem RP.len (h : RP a b l l') : l'.length = l.length := h.pm.length_eq
theorem RP.swap {i j : Nat} {x y : Int} (hi : a ≤ i ∧ i < b) (hj : a ≤ j ∧ j < b) (hx : l[i]? = some x) (hy : l[j]? = some y) : RP a b l (swL l i j x y) := by
  have h1 := (List.getElem?_eq_some_iff.1 hx).1
  have h2 := (List.getElem?_eq_some_iff.1 hy).1
  refine ⟨swL_perm hx hy, fun k hk => ?_, fun k k1 k2 => ?_⟩
  · rw [swL_get h1 h2, if_neg (by omega), if_neg (by omega)]
  · rw [swL_get h1 h2]
    by_cases e : k = j
    · exact ⟨i, hi.1, hi.2, by rw [if_pos e, hx]⟩
    · by_cases e2 : k = i
      · exact ⟨j, hj.1, hj.2, by rw [if_neg e, if_pos e2, hy]⟩
      · exact ⟨k, k1, k2, by rw [if_neg e, if_neg e2]⟩
theorem SrtOn.same (h : SrtOn F l a b) (k : ∀ i, a ≤ i → i < b → l'[i]? = l[i]?) : SrtOn F l' a b := fun i j x y h1 h2 h3 hx hy => h i j x y h1 h2 h3 (by rw [← k i h1 (by omega)]; exact hx) (by rw [← k j (by omega) h3]; exact hy)
end
noncomputable def SrtX (F : Int → Int) (l : List Int) (a b j : Nat) : Prop := ∀ (p r : Nat) (x y : Int), a ≤ p → p < r → r < b → r ≠ j → l[p]? = some x → l[r]? = some y → ltF F x y
set_option maxHeartbeats 4000000 in
theorem ins_ev {h0 h : Heap} {s fv : Value} {F : Int → Int} {ok : Int → Prop} {l : List Int} (C : CMP fv F ok s h0) (q : SS h0 s h l) (hok : ∀ x ∈ l, ok x) (a b : Nat) (hab : a ≤ b) (hb : b ≤ l.length) (hl : l.length < 1000) (asc : AscOn l a b) :
    WPo (EF Try.prog O0 40 [s, .int .i64 (a : Int), .int .i64 (b : Int), fv] h) fun r => ∃ l', SS h0 s r.2 l' ∧ RP a b l l' ∧ SrtOn F l' a b := by
  rw [EF_body (O := O0) (by kernel_rfl) Try.func40 rfl (rs := []) rfl (bad := []) (by kernel_rfl) _ _ (m := 53) rfl]
  have w1 : wrapF .i64 ((a : Int) + 1) = ((a + 1 : Nat) : Int) := by rw [wrap64 (by omega)]; rfl
  simp (maxSteps := 1000000) (disch := first | decide | omega | (simp only [go_sem]; first | done | omega)) only [go_sem, Int.reduceToNat, Nat.reduceMul, Nat.reduceAdd, Nat.reduceSub, ↓EU_region, ↓EU_draw, w1]
  repeat refine WPo_ob ?_
  refine (LP_rule (fun m st => ∃ (i : Nat) (tm : Fr) (h' : Heap) (l' : List Int), st = ⟨tm, h', []⟩ ∧ m = b + 1 - i ∧ a + 1 ≤ i ∧ i ≤ b + 1 ∧ (i ≤ b ∨ a = b) ∧ Fr.get tm 0 = s ∧ Fr.get tm 1 = .int .i64 (a : Int) ∧ Fr.get tm 2 = .int .i64 (b : Int) ∧ Fr.get tm 3 = fv ∧ Fr.get tm 8 = .int .i64 (i : Int) ∧ SS h0 s h' l' ∧ RP a i l l' ∧ SrtOn F l' a i)
    (fun q => ∃ (tm : Fr) (h' : Heap) (l' : List Int), q.2 = ⟨tm, h', []⟩ ∧ q.1 = .exit 0 ∧ SS h0 s h' l' ∧ RP a b l l' ∧ SrtOn F l' a b) ?_ (b + 1 - (a + 1)) _ _ ?_ ?_).mono ?_
  rotate_left
  · exact ⟨a + 1, _, h, l, rfl, rfl, Nat.le_refl _, by omega, by omega, by simp (maxSteps := 1000000) (disch := first | decide | omega | (simp only [go_sem]; first | done | omega)) only [go_sem, Int.reduceToNat, Nat.reduceMul, Nat.reduceAdd, Nat.reduceSub, ↓EU_region, ↓EU_draw], by simp (maxSteps := 1000000) (disch := first | decide | omega | (simp only [go_sem]; first | done | omega)) only [go_sem, Int.reduceToNat, Nat.reduceMul, Nat.reduceAdd, Nat.reduceSub, ↓EU_region, ↓EU_draw], by simp (maxSteps := 1000000) (disch := first | decide | omega | (simp only [go_sem]; first | done | omega)) only [go_sem, Int.reduceToNat, Nat.reduceMul, Nat.reduceAdd, Nat.reduceSub, ↓EU_region, ↓EU_draw], by simp (maxSteps := 1000000) (disch := first | decide | omega | (simp only [go_sem]; first | done | omega)) only [go_sem, Int.reduceToNat, Nat.reduceMul, Nat.reduceAdd, Nat.reduceSub, ↓EU_region, ↓EU_draw], by simp (maxSteps := 1000000) (disch := first | decide | omega | (simp only [go_sem]; first | done | omega)) only [go_sem, Int.reduceToNat, Nat.reduceMul, Nat.reduceAdd, Nat.reduceSub, ↓EU_region, ↓EU_draw], q, RP.refl _ _ _, fun i j x y h1 h2 h3 => by omega⟩
  · omega
  · rintro ⟨_, _⟩ ⟨tm, h', l', rfl, rfl, q', r', s'⟩
    simp (maxSteps := 1000000) (disch := first | decide | omega | (simp only [go_sem]; first | done | omega)) only [go_sem, Int.reduceToNat, Nat.reduceMul, Nat.reduceAdd, Nat.reduceSub, ↓EU_region, ↓EU_draw]
    exact ⟨l', q', r', s'⟩
  rintro m _ ⟨i, tm, h', l', rfl, hm, hai, hib, hbe, g0, g1, g2, g3, g8, q', r', s'⟩
  by_cases hq : i < b
  rotate_left
  · have d : decide ((i : Int) < (b : Int)) = false := decide_eq_false (by omega)
    simp (maxSteps := 1000000) (disch := first | decide | omega | (simp only [go_sem]; first | done | omega)) only [go_sem, Int.reduceToNat, Nat.reduceMul, Nat.reduceAdd, Nat.reduceSub, ↓EU_region, ↓EU_draw, g2, g8, d]
    refine ⟨_, h', l', rfl, trivial, q', ?_, ?_⟩
    · rcases hbe with e | e
      · obtain rfl : i = b := by omega
        exact r'
      · subst e
        refine ⟨r'.pm, fun k hk => ?_, fun k h1 h2 => by omega⟩
        by_cases e : a ≤ k ∧ k < i
        · obtain ⟨k', h1, h2, h3⟩ := r'.ins k e.1 e.2
          obtain rfl : k = k' := by omega
          exact h3
        · exact r'.out k (by omega)
    · exact fun p r x y h1 h2 h3 => s' p r x y h1 h2 (by omega)
  have hmm : b + 1 - (i + 1) < m := by omega
  have d : decide ((i : Int) < (b : Int)) = true := decide_eq_true (by omega)
  have hwi : wrapF .i64 ((i : Int) + 1) = ((i + 1 : Nat) : Int) := by rw [wrap64 (by omega)]; rfl
  have ll := r'.len
  obtain ⟨e, he⟩ : ∃ x, l[i]? = some x := ⟨_, List.getElem?_eq_getElem (by omega)⟩
  have he' : l'[i]? = some e := (r'.out i (.inr (Nat.le_refl _))).trans he
  simp (maxSteps := 1000000) (disch := first | decide | omega | (simp only [go_sem]; first | done | omega)) only [go_sem, Int.reduceToNat, Nat.reduceMul, Nat.reduceAdd, Nat.reduceSub, ↓EU_region, ↓EU_draw, g0, g1, g2, g3, g8, d]
  repeat refine WPo_ob ?_
  refine (LP_rule (fun mm st => ∃ (j : Nat) (tm : Fr) (h2 : Heap) (l2 : List Int), st = ⟨tm, h2, []⟩ ∧ mm = j ∧ a ≤ j ∧ j ≤ i ∧ Fr.get tm 0 = s ∧ Fr.get tm 1 = .int .i64 (a : Int) ∧ Fr.get tm 2 = .int .i64 (b : Int) ∧ Fr.get tm 3 = fv ∧ Fr.get tm 8 = .int .i64 (i : Int) ∧ Fr.get tm 9 = .int .i64 (j : Int) ∧ SS h0 s h2 l2 ∧ RP a (i + 1) l l2 ∧ SrtX F l2 a (i + 1) j ∧ l2[j]? = some e ∧ ∀ p x, a ≤ p → p < j → l2[p]? = some x → x < e)
    (fun q => ∃ (tm : Fr) (h2 : Heap) (l2 : List Int), q.2 = ⟨tm, h2, []⟩ ∧ q.1 = .exit 2 ∧ Fr.get tm 0 = s ∧ Fr.get tm 1 = .int .i64 (a : Int) ∧ Fr.get tm 2 = .int .i64 (b : Int) ∧ Fr.get tm 3 = fv ∧ Fr.get tm 8 = .int .i64 (i : Int) ∧ SS h0 s h2 l2 ∧ RP a (i + 1) l l2 ∧ SrtOn F l2 a (i + 1)) ?_ i _ _ ?_ ?_).mono ?_
  rotate_left
  · refine ⟨i, _, h', l', rfl, rfl, by omega, Nat.le_refl _, by simp (maxSteps := 1000000) (disch := first | decide | omega | (simp only [go_sem]; first | done | omega)) only [go_sem, Int.reduceToNat, Nat.reduceMul, Nat.reduceAdd, Nat.reduceSub, ↓EU_region, ↓EU_draw, g0], by simp (maxSteps := 1000000) (disch := first | decide | omega | (simp only [go_sem]; first | done | omega)) only [go_sem, Int.reduceToNat, Nat.reduceMul, Nat.reduceAdd, Nat.reduceSub, ↓EU_region, ↓EU_draw, g1], by simp (maxSteps := 1000000) (disch := first | decide | omega | (simp only [go_sem]; first | done | omega)) only [go_sem, Int.reduceToNat, Nat.reduceMul, Nat.reduceAdd, Nat.reduceSub, ↓EU_region, ↓EU_draw, g2], by simp (maxSteps := 1000000) (disch := first | decide | omega | (simp only [go_sem]; first | done | omega)) only [go_sem, Int.reduceToNat, Nat.reduceMul, Nat.reduceAdd, Nat.reduceSub, ↓EU_region, ↓EU_draw, g3], by simp (maxSteps := 1000000) (disch := first | decide | omega | (simp only [go_sem]; first | done | omega)) only [go_sem, Int.reduceToNat, Nat.reduceMul, Nat.reduceAdd, Nat.reduceSub, ↓EU_region, ↓EU_draw, g8], by simp (maxSteps := 1000000) (disch := first | decide | omega | (simp only [go_sem]; first | done | omega)) only [go_sem, Int.reduceToNat, Nat.reduceMul, Nat.reduceAdd, Nat.reduceSub, ↓EU_region, ↓EU_draw], q', r'.mono (Nat.le_refl _) (by omega), fun p r x y h1 h2 h3 h4 hx hy => s' p r x y h1 h2 (by omega) hx hy, he', fun p x h1 h2 hx => ?_⟩
    obtain ⟨k', h3, h4, h5⟩ := r'.ins p h1 h2
    exact asc k' i x e h3 h4 hq (by rw [← h5]; exact hx) he
  · omega
  · clear g0 g1 g2 g3 g8
    rintro ⟨_, _⟩ ⟨tm, h2, l2, rfl, rfl, g0, g1, g2, g3, g8, q2, r2, s2⟩
    simp (maxSteps := 1000000) (disch := first | decide | omega | (simp only [go_sem]; first | done | omega)) only [go_sem, Int.reduceToNat, Nat.reduceMul, Nat.reduceAdd, Nat.reduceSub, ↓EU_region, ↓EU_draw, g8, hwi]
    exact ⟨b + 1 - (i + 1), hmm, i + 1, _, h2, l2, rfl, rfl, by omega, by omega, by omega, by simp (maxSteps := 1000000) (disch := first | decide | omega | (simp only [go_sem]; first | done | omega)) only [go_sem, Int.reduceToNat, Nat.reduceMul, Nat.reduceAdd, Nat.reduceSub, ↓EU_region, ↓EU_draw, g0], by simp (maxSteps := 1000000) (disch := first | decide | omega | (simp only [go_sem]; first | done | omega)) only [go_sem, Int.reduceToNat, Nat.reduceMul, Nat.reduceAdd, Nat.reduceSub, ↓EU_region, ↓EU_draw, g1], by simp (maxSteps := 1000000) (disch := first | decide | omega | (simp only [go_sem]; first | done | omega)) only [go_sem, Int.reduceToNat, Nat.reduceMul, Nat.reduceAdd, Nat.reduceSub, ↓EU_region, ↓EU_draw, g2], by simp (maxSteps := 1000000) (disch := first | decide | omega | (simp only [go_sem]; first | done | omega)) only [go_sem, Int.reduceToNat, Nat.reduceMul, Nat.reduceAdd, Nat.reduceSub, ↓EU_region, ↓EU_draw, g3], by simp (maxSteps := 1000000) (disch := first | decide | omega | (simp only [go_sem]; first | done | omega)) only [go_sem, Int.reduceToNat, Nat.reduceMul, Nat.reduceAdd, Nat.reduceSub, ↓EU_region, ↓EU_draw], q2, r2, s2⟩
  clear g0 g1 g2 g3 g8
  rintro mm _ ⟨j, tm, h2, l2, rfl, hmj, haj, hji, g0, g1, g2, g3, g8, g9, q2, r2, s2, e2, big⟩
  have ll2 := r2.len
  by_cases hja : j = a
  · subst hja
    have dg : decide ((j : Int) > (j : Int)) = false := decide_eq_false (by omega)
    simp (maxSteps := 1000000) (disch := first | decide | omega | (simp only [go_sem]; first | done | omega)) only [go_sem, Int.reduceToNat, Nat.reduceMul, Nat.reduceAdd, Nat.reduceSub, ↓EU_region, ↓EU_draw, g1, g9, dg]
    refine ⟨_, h2, l2, rfl, trivial, by simp (maxSteps := 1000000) (disch := first | decide | omega | (simp only [go_sem]; first | done | omega)) only [go_sem, Int.reduceToNat, Nat.reduceMul, Nat.reduceAdd, Nat.reduceSub, ↓EU_region, ↓EU_draw, g0], by simp (maxSteps := 1000000) (disch := first | decide | omega | (simp only [go_sem]; first | done | omega)) only [go_sem, Int.reduceToNat, Nat.reduceMul, Nat.reduceAdd, Nat.reduceSub, ↓EU_region, ↓EU_draw, g1], by simp (maxSteps := 1000000) (disch := first | decide | omega | (simp only [go_sem]; first | done | omega)) only [go_sem, Int.reduceToNat, Nat.reduceMul, Nat.reduceAdd, Nat.reduceSub, ↓EU_region, ↓EU_draw, g2], by simp (maxSteps := 1000000) (disch := first | decide | omega | (simp only [go_sem]; first | done | omega)) only [go_sem, Int.reduceToNat, Nat.reduceMul, Nat.reduceAdd, Nat.reduceSub, ↓EU_region, ↓EU_draw, g3], by simp (maxSteps := 1000000) (disch := first | decide | omega | (simp only [go_sem]; first | done | omega)) only [go_sem, Int.reduceToNat, Nat.reduceMul, Nat.reduceAdd, Nat.reduceSub, ↓EU_region, ↓EU_draw, g8], q2, r2, fun p r x y h1 h2 h3 hx hy => s2 p r x y h1 h2 h3 (by omega) hx hy⟩
  have dg : decide ((j : Int) > (a : Int)) = true := decide_eq_true (by omega)
  have w3 : wrapF .i64 ((j : Int) - 1) = ((j - 1 : Nat) : Int) := by rw [wrap64 (by omega)]; omega
  obtain ⟨x, hx⟩ : ∃ x, l2[j - 1]? = some x := ⟨_, List.getElem?_eq_getElem (by omega)⟩
  have okm : ∀ z ∈ l2, ok z := fun z hz => hok z (r2.pm.mem_iff.1 hz)
  have hcall := C h2 q2.md e x (okm e (List.mem_of_getElem? e2)) (okm x (List.mem_of_getElem? hx))
  obtain ⟨B, o, c, cs, hs, hB, hc, rx, ry, f1, f2, q3⟩ := q2.swap e2 hx
  have gl := swL_get (x := e) (y := x) (l := l2) (i := j) (j := j - 1) (by omega) (by omega)
  have hxe := big (j - 1) x (by omega) (by omega) hx
  rw [hs] at g0
  have clt := cmpI_lt (F e) (F x)
  by_cases hlt : F e < F x
  · rw [decide_eq_true hlt] at clt
    simp (maxSteps := 1000000) (disch := first | decide | omega | (simp only [go_sem]; first | done | omega)) only [go_sem, Int.reduceToNat, Nat.reduceMul, Nat.reduceAdd, Nat.reduceSub, ↓EU_region, ↓EU_draw, g0, g1, g3, g9, dg, w3, hc, rx, ry, hcall, clt, Nat.mul_one]
    refine ⟨j - 1, by omega, j - 1, _, _, _, rfl, rfl, by omega, by omega, by rw [hs]; simp (maxSteps := 1000000) (disch := first | decide | omega | (simp only [go_sem]; first | done | omega)) only [go_sem, Int.reduceToNat, Nat.reduceMul, Nat.reduceAdd, Nat.reduceSub, ↓EU_region, ↓EU_draw, g0], by simp (maxSteps := 1000000) (disch := first | decide | omega | (simp only [go_sem]; first | done | omega)) only [go_sem, Int.reduceToNat, Nat.reduceMul, Nat.reduceAdd, Nat.reduceSub, ↓EU_region, ↓EU_draw, g1], by simp (maxSteps := 1000000) (disch := first | decide | omega | (simp only [go_sem]; first | done | omega)) only [go_sem, Int.reduceToNat, Nat.reduceMul, Nat.reduceAdd, Nat.reduceSub, ↓EU_region, ↓EU_draw, g2], by simp (maxSteps := 1000000) (disch := first | decide | omega | (simp only [go_sem]; first | done | omega)) only [go_sem, Int.reduceToNat, Nat.reduceMul, Nat.reduceAdd, Nat.reduceSub, ↓EU_region, ↓EU_draw, g3], by simp (maxSteps := 1000000) (disch := first | decide | omega | (simp only [go_sem]; first | done | omega)) only [go_sem, Int.reduceToNat, Nat.reduceMul, Nat.reduceAdd, Nat.reduceSub, ↓EU_region, ↓EU_draw, g8], by simp (maxSteps := 1000000) (disch := first | decide | omega | (simp only [go_sem]; first | done | omega)) only [go_sem, Int.reduceToNat, Nat.reduceMul, Nat.reduceAdd, Nat.reduceSub, ↓EU_region, ↓EU_draw], q3, r2.trans (RP.swap (by omega) (by omega) e2 hx), fun p r u v h1 h3 h4 h5 hu hv => ?_, by rw [gl, if_pos rfl], fun p u h1 h3 hu => ?_⟩
    · rw [gl] at hu hv
      have hex : ltF F e x := .inl hlt
      by_cases er : r = j
      · rw [if_neg (by omega), if_pos er] at hv
        cases hv
        by_cases ep : p = j - 1
        · rw [if_pos ep] at hu
          cases hu
          exact hex
        · rw [if_neg ep, if_neg (by omega)] at hu
          exact s2 p (j - 1) u x h1 (by omega) (by omega) (by omega) hu hx
      · rw [if_neg h5, if_neg er] at hv
        by_cases ep : p = j - 1
        · rw [if_pos ep] at hu
          cases hu
          exact s2 j r e v (by omega) (by omega) h4 er e2 hv
        · rw [if_neg ep] at hu
          by_cases ep2 : p = j
          · rw [if_pos ep2] at hu
            cases hu
            exact s2 (j - 1) r x v (by omega) (by omega) h4 er hx hv
          · rw [if_neg ep2] at hu
            exact s2 p r u v h1 h3 h4 er hu hv
    · rw [gl, if_neg (by omega), if_neg (by omega)] at hu
      exact big p u h1 (by omega) hu
  · rw [decide_eq_false hlt] at clt
    have hxe2 : ltF F x e := by unfold ltF; omega
    simp (maxSteps := 1000000) (disch := first | decide | omega | (simp only [go_sem]; first | done | omega)) only [go_sem, Int.reduceToNat, Nat.reduceMul, Nat.reduceAdd, Nat.reduceSub, ↓EU_region, ↓EU_draw, g0, g1, g3, g9, dg, w3, hc, rx, ry, hcall, clt, Nat.mul_one]
    refine ⟨_, h2, l2, rfl, trivial, by rw [hs]; simp (maxSteps := 1000000) (disch := first | decide | omega | (simp only [go_sem]; first | done | omega)) only [go_sem, Int.reduceToNat, Nat.reduceMul, Nat.reduceAdd, Nat.reduceSub, ↓EU_region, ↓EU_draw, g0], by simp (maxSteps := 1000000) (disch := first | decide | omega | (simp only [go_sem]; first | done | omega)) only [go_sem, Int.reduceToNat, Nat.reduceMul, Nat.reduceAdd, Nat.reduceSub, ↓EU_region, ↓EU_draw, g1], by simp (maxSteps := 1000000) (disch := first | decide | omega | (simp only [go_sem]; first | done | omega)) only [go_sem, Int.reduceToNat, Nat.reduceMul, Nat.reduceAdd, Nat.reduceSub, ↓EU_region, ↓EU_draw, g2], by simp (maxSteps := 1000000) (disch := first | decide | omega | (simp only [go_sem]; first | done | omega)) only [go_sem, Int.reduceToNat, Nat.reduceMul, Nat.reduceAdd, Nat.reduceSub, ↓EU_region, ↓EU_draw, g3], by simp (maxSteps := 1000000) (disch := first | decide | omega | (simp only [go_sem]; first | done | omega)) only [go_sem, Int.reduceToNat, Nat.reduceMul, Nat.reduceAdd, Nat.reduceSub, ↓EU_region, ↓EU_draw, g8], q2, r2, fun p r u v h1 h3 h4 hu hv => ?_⟩
    by_cases er : r = j
    · subst er
      rw [e2] at hv
      cases hv
      by_cases ep : p = r - 1
      · subst ep
        rw [hx] at hu
        cases hu
        exact hxe2
      · exact (s2 p (r - 1) u x h1 (by omega) (by omega) (by omega) hu hx).tr hxe2
    · exact s2 p r u v h1 h3 h4 er hu hv
end Go.Proofs.Ytoomhlfogeglcaa.EV
