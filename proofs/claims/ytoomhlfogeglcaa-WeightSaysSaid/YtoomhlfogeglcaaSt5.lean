/- Contracts: sorting, stable: two rows in one. No condition. -/
import Derived.Test.YtoomhlfogeglcaaSt4
namespace Go.Proofs.Ytoomhlfogeglcaa.EV
open Go Go.Proofs
set_option linter.unusedVariables false
set_option linter.unusedSimpArgs false
set_option maxRecDepth 100000
set_option pp.deepTerms false
set_option pp.deepTerms.threshold 20
theorem WPo.mono2 {α β : Type} {x : Option α} {f : α → Option β} {Q R : β → Prop} (h : WPo x fun a => WPo (f a) Q) (k : ∀ b, Q b → R b) : WPo x fun a => WPo (f a) R := h.mono fun a ha => ha.mono k
set_option maxHeartbeats 16000000 in
theorem sym_ev {h0 : Heap} {s fv : Value} {F : Int → Int} {ok : Int → Prop} (C : CMP fv F ok s h0) : ∀ (dd : Nat) (a m b : Nat) (h : Heap) (l : List Int), b - a = dd → SS h0 s h l → (∀ x ∈ l, ok x) → a < m → m < b → b ≤ l.length → l.length < 1000 → SrtOn F l a m → SrtOn F l m b → AscX l a m b →
    WPo (EF Try.prog O0 41 [s, .int .i64 (a : Int), .int .i64 (m : Int), .int .i64 (b : Int), fv] h) fun r => ∃ l', SS h0 s r.2 l' ∧ RP a b l l' ∧ SrtOn F l' a b := by
  intro dd
  induction dd using Nat.strongRecOn with
  | ind dd ih =>
  intro a m b h l hdd q hok ham hmb hb hl sU sV asc
  rw [EF_body (O := O0) (by kernel_rfl) Try.func41 rfl (rs := []) rfl (bad := []) (by kernel_rfl) _ _ (m := 220) rfl]
  have w1 : wrapF .i64 ((m : Int) - (a : Int)) = ((m - a : Nat) : Int) := by rw [wrap64 (by omega)]; omega
  have w2 : wrapF .i64 ((b : Int) - (m : Int)) = ((b - m : Nat) : Int) := by rw [wrap64 (by omega)]; omega
  have sh1 : ∀ n : Nat, n >>> 1 = n / 2 := fun n => Nat.shiftRight_eq_div_pow n 1
  obtain ⟨e, he⟩ : ∃ x, l[a]? = some x := ⟨_, List.getElem?_eq_getElem (by omega)⟩
  obtain ⟨f, hf⟩ : ∃ x, l[m]? = some x := ⟨_, List.getElem?_eq_getElem (by omega)⟩
  have hmem : ∀ {i : Nat} {x : Int}, l[i]? = some x → ok x := fun hx => hok _ (List.mem_of_getElem? hx)
  have rd : ∀ {i : Nat} {x : Int}, l[i]? = some x → ∃ B o c, s = .slice (some ⟨B, o, none⟩) l.length c ∧ rdc1 (h.get B) (o + i) = some (.int .i64 x) := fun {i x} hx => by
    obtain ⟨B, o, c, e, _, _, r1⟩ := q.ow.sl.at hx rfl
    have r0 := r1 0 _ rfl
    rw [Nat.mul_one, Nat.add_zero] at r0
    exact ⟨B, o, c, e, r0⟩
  by_cases c1 : m - a = 1
  · have d1 : decide (((m - a : Nat) : Int) = 1) = true := decide_eq_true (by omega)
    simp (maxSteps := 1000000) (disch := first | decide | omega | (simp only [go_sem]; first | done | omega)) only [go_sem, Int.reduceToNat, Nat.reduceMul, Nat.reduceAdd, Nat.reduceSub, ↓EU_region, ↓EU_draw, w1, d1]
    repeat refine WPo_ob ?_
    refine (LP_rule (fun mm st => ∃ (i j : Nat) (tm : Fr), st = ⟨tm, h, []⟩ ∧ mm = j - i ∧ m ≤ i ∧ i ≤ j ∧ j ≤ b ∧ Fr.get tm 0 = s ∧ Fr.get tm 1 = .int .i64 (a : Int) ∧ Fr.get tm 4 = fv ∧ Fr.get tm 10 = .int .i64 (i : Int) ∧ Fr.get tm 11 = .int .i64 (j : Int) ∧ (i = m ∨ ∃ x, l[i - 1]? = some x ∧ F x < F e) ∧ (j = b ∨ ∃ x, l[j]? = some x ∧ ¬ F x < F e))
      (fun q => ∃ (i : Nat) (tm : Fr), q.2 = ⟨tm, h, []⟩ ∧ q.1 = .exit 0 ∧ m ≤ i ∧ i ≤ b ∧ Fr.get tm 0 = s ∧ Fr.get tm 1 = .int .i64 (a : Int) ∧ Fr.get tm 4 = fv ∧ Fr.get tm 10 = .int .i64 (i : Int) ∧ (i = m ∨ ∃ x, l[i - 1]? = some x ∧ F x < F e) ∧ (i = b ∨ ∃ x, l[i]? = some x ∧ ¬ F x < F e)) ?_ (b - m) _ _ ?_ ?_).mono ?_
    · rintro mm _ ⟨i, j, tm, rfl, hmm, hi, hij, hj, g0, g1, g4, g10, g11, bi, bj⟩
      by_cases hq : i < j
      · have hA : j - ((i + j) / 2 + 1) < mm ∧ (i + j) / 2 - i < mm ∧ m ≤ (i + j) / 2 ∧ i ≤ (i + j) / 2 ∧ (i + j) / 2 + 1 ≤ j ∧ (i + j) / 2 ≤ b := by clear bi bj; omega
        obtain ⟨a1, a2, a3, a4, a5, a6⟩ := hA
        have d : decide ((i : Int) < (j : Int)) = true := decide_eq_true (by omega)
        have w3 : wrapF .i64 ((i : Int) + (j : Int)) = ((i + j : Nat) : Int) := by rw [wrap64 (by omega)]; rfl
        obtain ⟨x, hx⟩ : ∃ x, l[(i + j) / 2]? = some x := ⟨_, List.getElem?_eq_getElem (by omega)⟩
        obtain ⟨B, o, c, hs, rx⟩ := rd hx
        obtain ⟨B', o', c', hs', re⟩ := rd he
        rw [hs] at hs'
        cases hs'
        have hcall := C h q.md x e (hmem hx) (hmem he)
        rw [hs] at g0
        have clt := cmpI_lt (F x) (F e)
        have w4 : wrapF .i64 (((i + j) / 2 : Nat) + 1 : Int) = (((i + j) / 2 + 1 : Nat) : Int) := by rw [wrap64 (by omega)]; rfl
        have e1 : F x < F e ∨ ¬ F x < F e := Decidable.em _
        rcases e1 with hlt | hlt
        · rw [decide_eq_true hlt] at clt
          simp (maxSteps := 1000000) (disch := first | decide | omega | (simp only [go_sem]; first | done | omega)) only [go_sem, Int.reduceToNat, Nat.reduceMul, Nat.reduceAdd, Nat.reduceSub, ↓EU_region, ↓EU_draw, g0, g1, g4, g10, g11, d, w3, sh1, rx, re, Nat.mul_one, hcall, clt, w4]
          exact ⟨j - ((i + j) / 2 + 1), a1, (i + j) / 2 + 1, j, _, rfl, rfl, Nat.le_succ_of_le a3, a5, hj, by rw [hs]; simp (maxSteps := 1000000) (disch := first | decide | omega | (simp only [go_sem]; first | done | omega)) only [go_sem, Int.reduceToNat, Nat.reduceMul, Nat.reduceAdd, Nat.reduceSub, ↓EU_region, ↓EU_draw, g0], by simp (maxSteps := 1000000) (disch := first | decide | omega | (simp only [go_sem]; first | done | omega)) only [go_sem, Int.reduceToNat, Nat.reduceMul, Nat.reduceAdd, Nat.reduceSub, ↓EU_region, ↓EU_draw, g1], by simp (maxSteps := 1000000) (disch := first | decide | omega | (simp only [go_sem]; first | done | omega)) only [go_sem, Int.reduceToNat, Nat.reduceMul, Nat.reduceAdd, Nat.reduceSub, ↓EU_region, ↓EU_draw, g4], by simp (maxSteps := 1000000) (disch := first | decide | omega | (simp only [go_sem]; first | done | omega)) only [go_sem, Int.reduceToNat, Nat.reduceMul, Nat.reduceAdd, Nat.reduceSub, ↓EU_region, ↓EU_draw], by simp (maxSteps := 1000000) (disch := first | decide | omega | (simp only [go_sem]; first | done | omega)) only [go_sem, Int.reduceToNat, Nat.reduceMul, Nat.reduceAdd, Nat.reduceSub, ↓EU_region, ↓EU_draw, g11], .inr ⟨x, by rw [Nat.add_sub_cancel]; exact hx, hlt⟩, bj⟩
        · rw [decide_eq_false hlt] at clt
          simp (maxSteps := 1000000) (disch := first | decide | omega | (simp only [go_sem]; first | done | omega)) only [go_sem, Int.reduceToNat, Nat.reduceMul, Nat.reduceAdd, Nat.reduceSub, ↓EU_region, ↓EU_draw, g0, g1, g4, g10, g11, d, w3, sh1, rx, re, Nat.mul_one, hcall, clt]
          exact ⟨(i + j) / 2 - i, a2, i, (i + j) / 2, _, rfl, rfl, hi, a4, a6, by rw [hs]; simp (maxSteps := 1000000) (disch := first | decide | omega | (simp only [go_sem]; first | done | omega)) only [go_sem, Int.reduceToNat, Nat.reduceMul, Nat.reduceAdd, Nat.reduceSub, ↓EU_region, ↓EU_draw, g0], by simp (maxSteps := 1000000) (disch := first | decide | omega | (simp only [go_sem]; first | done | omega)) only [go_sem, Int.reduceToNat, Nat.reduceMul, Nat.reduceAdd, Nat.reduceSub, ↓EU_region, ↓EU_draw, g1], by simp (maxSteps := 1000000) (disch := first | decide | omega | (simp only [go_sem]; first | done | omega)) only [go_sem, Int.reduceToNat, Nat.reduceMul, Nat.reduceAdd, Nat.reduceSub, ↓EU_region, ↓EU_draw, g4], by simp (maxSteps := 1000000) (disch := first | decide | omega | (simp only [go_sem]; first | done | omega)) only [go_sem, Int.reduceToNat, Nat.reduceMul, Nat.reduceAdd, Nat.reduceSub, ↓EU_region, ↓EU_draw, g10], by simp (maxSteps := 1000000) (disch := first | decide | omega | (simp only [go_sem]; first | done | omega)) only [go_sem, Int.reduceToNat, Nat.reduceMul, Nat.reduceAdd, Nat.reduceSub, ↓EU_region, ↓EU_draw], bi, .inr ⟨x, hx, hlt⟩⟩
      · have d : decide ((i : Int) < (j : Int)) = false := decide_eq_false (by omega)
        obtain rfl : i = j := by omega
        simp (maxSteps := 1000000) (disch := first | decide | omega | (simp only [go_sem]; first | done | omega)) only [go_sem, Int.reduceToNat, Nat.reduceMul, Nat.reduceAdd, Nat.reduceSub, ↓EU_region, ↓EU_draw, g10, g11, d]
        exact ⟨i, _, rfl, trivial, hi, hj, by simp (maxSteps := 1000000) (disch := first | decide | omega | (simp only [go_sem]; first | done | omega)) only [go_sem, Int.reduceToNat, Nat.reduceMul, Nat.reduceAdd, Nat.reduceSub, ↓EU_region, ↓EU_draw, g0], by simp (maxSteps := 1000000) (disch := first | decide | omega | (simp only [go_sem]; first | done | omega)) only [go_sem, Int.reduceToNat, Nat.reduceMul, Nat.reduceAdd, Nat.reduceSub, ↓EU_region, ↓EU_draw, g1], by simp (maxSteps := 1000000) (disch := first | decide | omega | (simp only [go_sem]; first | done | omega)) only [go_sem, Int.reduceToNat, Nat.reduceMul, Nat.reduceAdd, Nat.reduceSub, ↓EU_region, ↓EU_draw, g4], by simp (maxSteps := 1000000) (disch := first | decide | omega | (simp only [go_sem]; first | done | omega)) only [go_sem, Int.reduceToNat, Nat.reduceMul, Nat.reduceAdd, Nat.reduceSub, ↓EU_region, ↓EU_draw, g10], bi, bj⟩
    · exact ⟨m, b, _, rfl, rfl, Nat.le_refl _, by omega, Nat.le_refl _, by simp (maxSteps := 1000000) (disch := first | decide | omega | (simp only [go_sem]; first | done | omega)) only [go_sem, Int.reduceToNat, Nat.reduceMul, Nat.reduceAdd, Nat.reduceSub, ↓EU_region, ↓EU_draw], by simp (maxSteps := 1000000) (disch := first | decide | omega | (simp only [go_sem]; first | done | omega)) only [go_sem, Int.reduceToNat, Nat.reduceMul, Nat.reduceAdd, Nat.reduceSub, ↓EU_region, ↓EU_draw], by simp (maxSteps := 1000000) (disch := first | decide | omega | (simp only [go_sem]; first | done | omega)) only [go_sem, Int.reduceToNat, Nat.reduceMul, Nat.reduceAdd, Nat.reduceSub, ↓EU_region, ↓EU_draw], by simp (maxSteps := 1000000) (disch := first | decide | omega | (simp only [go_sem]; first | done | omega)) only [go_sem, Int.reduceToNat, Nat.reduceMul, Nat.reduceAdd, Nat.reduceSub, ↓EU_region, ↓EU_draw], by simp (maxSteps := 1000000) (disch := first | decide | omega | (simp only [go_sem]; first | done | omega)) only [go_sem, Int.reduceToNat, Nat.reduceMul, Nat.reduceAdd, Nat.reduceSub, ↓EU_region, ↓EU_draw], .inl rfl, .inl rfl⟩
    · omega
    rintro ⟨_, _⟩ ⟨i, tm, rfl, rfl, hi, hib, g0, g1, g4, g10, bi, bj⟩
    have hma : m = a + 1 := by clear bi bj; omega
    subst hma
    have hpr : a ≤ a ∧ a ≤ a + 1 ∧ a + 1 ≤ i ∧ i ≤ b := by clear bi bj; omega
    have hfi : (i = a + 1 ∨ ∃ x y, l[i - 1]? = some x ∧ l[a]? = some y ∧ ltF F x y) := by
      rcases bi with e1 | ⟨x, hx, hlt⟩
      · exact .inl e1
      · exact .inr ⟨x, e, hx, he, .inl hlt⟩
    have hfj : (i = b ∨ ∃ x y, l[a]? = some x ∧ l[i]? = some y ∧ ltF F x y) := by
      by_cases hib2 : i = b
      · exact .inl hib2
      · rcases bj with e1 | ⟨x, hx, hlt⟩
        · exact .inl e1
        · have := asc a i e x (Nat.le_refl _) (Nat.lt_succ_self a) hi (Nat.lt_of_le_of_ne hib hib2) he hx
          exact .inr ⟨e, x, he, hx, by unfold ltF; clear hfi bi; omega⟩
    clear bi bj
    obtain ⟨X, hX⟩ : ∃ X : Prop, X = ((i = a + 1 ∨ ∃ x y, l[i - 1]? = some x ∧ l[a]? = some y ∧ ltF F x y) ∧ (i = b ∨ ∃ x y, l[a]? = some x ∧ l[i]? = some y ∧ ltF F x y)) := ⟨_, rfl⟩
    have hXt : X := by rw [hX]; exact ⟨hfi, hfj⟩
    clear hfi hfj
    have w5 : wrapF .i64 ((i : Int) - 1) = ((i - 1 : Nat) : Int) := by rw [wrap64 (by omega)]; omega
    simp (maxSteps := 1000000) (disch := first | decide | omega | (simp only [go_sem]; first | done | omega)) only [go_sem, Int.reduceToNat, Nat.reduceMul, Nat.reduceAdd, Nat.reduceSub, ↓EU_region, ↓EU_draw, g1]
    repeat refine WPo_ob ?_
    refine (LP_rule (fun mm st => ∃ (k : Nat) (tm : Fr) (h2 : Heap) (l2 : List Int), st = ⟨tm, h2, []⟩ ∧ mm = i - 1 - k ∧ a ≤ k ∧ k ≤ i - 1 ∧ Fr.get tm 0 = s ∧ Fr.get tm 10 = .int .i64 (i : Int) ∧ Fr.get tm 13 = .int .i64 (k : Int) ∧ SS h0 s h2 l2 ∧ l2.Perm l ∧ ∀ p, l2[p]? = l[rtM a (a + 1) (k + 1) p]?)
      (fun q => ∃ (tm : Fr) (h2 : Heap) (l2 : List Int), q.2 = ⟨tm, h2, []⟩ ∧ q.1 = .exit 2 ∧ SS h0 s h2 l2 ∧ l2.Perm l ∧ ∀ p, l2[p]? = l[rtM a (a + 1) i p]?) ?_ (i - 1 - a) _ _ ?_ ?_).mono ?_
    · clear g0 g1 g4 g10
      rintro mm _ ⟨k, tm, h2, l2, rfl, hmm, hk, hki, g0, g10, g13, q2, p2, k2⟩
      have ll := p2.length_eq
      by_cases hq : k < i - 1
      · have d : decide ((k : Int) < ((i - 1 : Nat) : Int)) = true := decide_eq_true (by omega)
        have w6 : wrapF .i64 ((k : Int) + 1) = ((k + 1 : Nat) : Int) := by rw [wrap64 (by omega)]; rfl
        obtain ⟨x, hx⟩ : ∃ x, l2[k]? = some x := ⟨_, List.getElem?_eq_getElem (by omega)⟩
        obtain ⟨y, hy⟩ : ∃ x, l2[k + 1]? = some x := ⟨_, List.getElem?_eq_getElem (by omega)⟩
        obtain ⟨B, o, c, cs, hs, hB, hc, rx, ry, f1, f2, q3⟩ := q2.swap hx hy
        have gl := swL_get (x := x) (y := y) (l := l2) (i := k) (j := k + 1) (by omega) (by omega)
        rw [hs] at g0
        simp (maxSteps := 1000000) (disch := first | decide | omega | (simp only [go_sem]; first | done | omega)) only [go_sem, Int.reduceToNat, Nat.reduceMul, Nat.reduceAdd, Nat.reduceSub, ↓EU_region, ↓EU_draw, g0, g10, g13, w5, d, w6, hc, rx, ry, Nat.mul_one]
        refine ⟨i - 1 - (k + 1), by omega, k + 1, _, _, _, rfl, rfl, by omega, by omega, by rw [hs]; simp (maxSteps := 1000000) (disch := first | decide | omega | (simp only [go_sem]; first | done | omega)) only [go_sem, Int.reduceToNat, Nat.reduceMul, Nat.reduceAdd, Nat.reduceSub, ↓EU_region, ↓EU_draw, g0], by simp (maxSteps := 1000000) (disch := first | decide | omega | (simp only [go_sem]; first | done | omega)) only [go_sem, Int.reduceToNat, Nat.reduceMul, Nat.reduceAdd, Nat.reduceSub, ↓EU_region, ↓EU_draw, g10], by simp (maxSteps := 1000000) (disch := first | decide | omega | (simp only [go_sem]; first | done | omega)) only [go_sem, Int.reduceToNat, Nat.reduceMul, Nat.reduceAdd, Nat.reduceSub, ↓EU_region, ↓EU_draw], q3, (swL_perm hx hy).trans p2, fun p => ?_⟩
        rw [gl]
        have u1 := k2 k
        have u2 := k2 (k + 1)
        have u3 := k2 p
        rw [hx] at u1
        rw [hy] at u2
        by_cases e1 : p = k + 1
        · rw [if_pos e1, u1]
          congr 1
          unfold rtM
          (repeat' split) <;> omega
        · rw [if_neg e1]
          by_cases e2 : p = k
          · rw [if_pos e2, u2]
            congr 1
            unfold rtM
            (repeat' split) <;> omega
          · rw [if_neg e2, u3]
            congr 1
            unfold rtM
            (repeat' split) <;> omega
      · have d : decide ((k : Int) < ((i - 1 : Nat) : Int)) = false := decide_eq_false (by omega)
        obtain rfl : i = k + 1 := by omega
        simp (maxSteps := 1000000) (disch := first | decide | omega | (simp only [go_sem]; first | done | omega)) only [go_sem, Int.reduceToNat, Nat.reduceMul, Nat.reduceAdd, Nat.reduceSub, ↓EU_region, ↓EU_draw, g10, g13, w5, d]
        exact ⟨_, h2, l2, rfl, trivial, q2, p2, k2⟩
    · exact ⟨a, _, h, l, rfl, rfl, Nat.le_refl _, by omega, by simp (maxSteps := 1000000) (disch := first | decide | omega | (simp only [go_sem]; first | done | omega)) only [go_sem, Int.reduceToNat, Nat.reduceMul, Nat.reduceAdd, Nat.reduceSub, ↓EU_region, ↓EU_draw, g0], by simp (maxSteps := 1000000) (disch := first | decide | omega | (simp only [go_sem]; first | done | omega)) only [go_sem, Int.reduceToNat, Nat.reduceMul, Nat.reduceAdd, Nat.reduceSub, ↓EU_region, ↓EU_draw, g10], by simp (maxSteps := 1000000) (disch := first | decide | omega | (simp only [go_sem]; first | done | omega)) only [go_sem, Int.reduceToNat, Nat.reduceMul, Nat.reduceAdd, Nat.reduceSub, ↓EU_region, ↓EU_draw], q, List.Perm.refl _, fun p => by rw [rt_id (.inr rfl) (by omega) (by omega)]⟩
    · omega
    rintro ⟨_, _⟩ ⟨tm, h2, l2, rfl, rfl, q2, p2, k2⟩
    simp (maxSteps := 1000000) (disch := first | decide | omega | (simp only [go_sem]; first | done | omega)) only [go_sem, Int.reduceToNat, Nat.reduceMul, Nat.reduceAdd, Nat.reduceSub, ↓EU_region, ↓EU_draw]
    rw [hX] at hXt
    obtain ⟨hfi, hfj⟩ := hXt
    refine ⟨l2, q2, rt_RP hpr p2 k2, rt_srt hpr sU sV ?_ ?_ (fun p r x y h1 h2 => absurd (Nat.lt_of_le_of_lt h1 h2) (Nat.lt_irrefl _)) (fun p r x y h1 h2 => absurd (Nat.lt_of_le_of_lt h1 h2) (Nat.lt_irrefl _)) k2⟩
    · exact all_of' (Nat.le_refl _) hi hib (Nat.le_succ _) sU sV (.inr hfi)
    · exact all_of (Nat.le_refl _) hib sU sV hi (.inr hfj)
  have d1 : decide (((m - a : Nat) : Int) = 1) = false := decide_eq_false (by omega)
  by_cases c2 : b - m = 1
  · have d2 : decide (((b - m : Nat) : Int) = 1) = true := decide_eq_true (by omega)
    simp (maxSteps := 1000000) (disch := first | decide | omega | (simp only [go_sem]; first | done | omega)) only [go_sem, Int.reduceToNat, Nat.reduceMul, Nat.reduceAdd, Nat.reduceSub, ↓EU_region, ↓EU_draw, w1, d1, w2, d2]
    repeat refine WPo_ob ?_
    refine (LP_rule (fun mm st => ∃ (i j : Nat) (tm : Fr), st = ⟨tm, h, []⟩ ∧ mm = j - i ∧ a ≤ i ∧ i ≤ j ∧ j ≤ m ∧ Fr.get tm 0 = s ∧ Fr.get tm 2 = .int .i64 (m : Int) ∧ Fr.get tm 4 = fv ∧ Fr.get tm 14 = .int .i64 (i : Int) ∧ Fr.get tm 15 = .int .i64 (j : Int) ∧ (i = a ∨ ∃ x, l[i - 1]? = some x ∧ ¬ F f < F x) ∧ (j = m ∨ ∃ x, l[j]? = some x ∧ F f < F x))
      (fun q => ∃ (i : Nat) (tm : Fr), q.2 = ⟨tm, h, []⟩ ∧ q.1 = .exit 4 ∧ a ≤ i ∧ i ≤ m ∧ Fr.get tm 0 = s ∧ Fr.get tm 2 = .int .i64 (m : Int) ∧ Fr.get tm 4 = fv ∧ Fr.get tm 14 = .int .i64 (i : Int) ∧ (i = a ∨ ∃ x, l[i - 1]? = some x ∧ ¬ F f < F x) ∧ (i = m ∨ ∃ x, l[i]? = some x ∧ F f < F x)) ?_ (m - a) _ _ ?_ ?_).mono ?_
    · rintro mm _ ⟨i, j, tm, rfl, hmm, hi, hij, hj, g0, g2, g4, g14, g15, bi, bj⟩
      by_cases hq : i < j
      · have hA : j - ((i + j) / 2 + 1) < mm ∧ (i + j) / 2 - i < mm ∧ a ≤ (i + j) / 2 ∧ i ≤ (i + j) / 2 ∧ (i + j) / 2 + 1 ≤ j ∧ (i + j) / 2 ≤ m := by clear bi bj; omega
        obtain ⟨a1, a2, a3, a4, a5, a6⟩ := hA
        have d : decide ((i : Int) < (j : Int)) = true := decide_eq_true (by omega)
        have w3 : wrapF .i64 ((i : Int) + (j : Int)) = ((i + j : Nat) : Int) := by rw [wrap64 (by omega)]; rfl
        obtain ⟨x, hx⟩ : ∃ x, l[(i + j) / 2]? = some x := ⟨_, List.getElem?_eq_getElem (by omega)⟩
        obtain ⟨B, o, c, hs, rx⟩ := rd hx
        obtain ⟨B', o', c', hs', re⟩ := rd hf
        rw [hs] at hs'
        cases hs'
        have hcall := C h q.md f x (hmem hf) (hmem hx)
        rw [hs] at g0
        have clt := cmpI_lt (F f) (F x)
        have w4 : wrapF .i64 (((i + j) / 2 : Nat) + 1 : Int) = (((i + j) / 2 + 1 : Nat) : Int) := by rw [wrap64 (by omega)]; rfl
        have e1 : F f < F x ∨ ¬ F f < F x := Decidable.em _
        rcases e1 with hlt | hlt
        · rw [decide_eq_true hlt] at clt
          simp (maxSteps := 1000000) (disch := first | decide | omega | (simp only [go_sem]; first | done | omega)) only [go_sem, Int.reduceToNat, Nat.reduceMul, Nat.reduceAdd, Nat.reduceSub, ↓EU_region, ↓EU_draw, g0, g2, g4, g14, g15, d, w3, sh1, rx, re, Nat.mul_one, hcall, clt]
          exact ⟨(i + j) / 2 - i, a2, i, (i + j) / 2, _, rfl, rfl, hi, a4, a6, by rw [hs]; simp (maxSteps := 1000000) (disch := first | decide | omega | (simp only [go_sem]; first | done | omega)) only [go_sem, Int.reduceToNat, Nat.reduceMul, Nat.reduceAdd, Nat.reduceSub, ↓EU_region, ↓EU_draw, g0], by simp (maxSteps := 1000000) (disch := first | decide | omega | (simp only [go_sem]; first | done | omega)) only [go_sem, Int.reduceToNat, Nat.reduceMul, Nat.reduceAdd, Nat.reduceSub, ↓EU_region, ↓EU_draw, g2], by simp (maxSteps := 1000000) (disch := first | decide | omega | (simp only [go_sem]; first | done | omega)) only [go_sem, Int.reduceToNat, Nat.reduceMul, Nat.reduceAdd, Nat.reduceSub, ↓EU_region, ↓EU_draw, g4], by simp (maxSteps := 1000000) (disch := first | decide | omega | (simp only [go_sem]; first | done | omega)) only [go_sem, Int.reduceToNat, Nat.reduceMul, Nat.reduceAdd, Nat.reduceSub, ↓EU_region, ↓EU_draw, g14], by simp (maxSteps := 1000000) (disch := first | decide | omega | (simp only [go_sem]; first | done | omega)) only [go_sem, Int.reduceToNat, Nat.reduceMul, Nat.reduceAdd, Nat.reduceSub, ↓EU_region, ↓EU_draw], bi, .inr ⟨x, hx, hlt⟩⟩
        · rw [decide_eq_false hlt] at clt
          simp (maxSteps := 1000000) (disch := first | decide | omega | (simp only [go_sem]; first | done | omega)) only [go_sem, Int.reduceToNat, Nat.reduceMul, Nat.reduceAdd, Nat.reduceSub, ↓EU_region, ↓EU_draw, g0, g2, g4, g14, g15, d, w3, sh1, rx, re, Nat.mul_one, hcall, clt, w4]
          exact ⟨j - ((i + j) / 2 + 1), a1, (i + j) / 2 + 1, j, _, rfl, rfl, Nat.le_succ_of_le a3, a5, hj, by rw [hs]; simp (maxSteps := 1000000) (disch := first | decide | omega | (simp only [go_sem]; first | done | omega)) only [go_sem, Int.reduceToNat, Nat.reduceMul, Nat.reduceAdd, Nat.reduceSub, ↓EU_region, ↓EU_draw, g0], by simp (maxSteps := 1000000) (disch := first | decide | omega | (simp only [go_sem]; first | done | omega)) only [go_sem, Int.reduceToNat, Nat.reduceMul, Nat.reduceAdd, Nat.reduceSub, ↓EU_region, ↓EU_draw, g2], by simp (maxSteps := 1000000) (disch := first | decide | omega | (simp only [go_sem]; first | done | omega)) only [go_sem, Int.reduceToNat, Nat.reduceMul, Nat.reduceAdd, Nat.reduceSub, ↓EU_region, ↓EU_draw, g4], by simp (maxSteps := 1000000) (disch := first | decide | omega | (simp only [go_sem]; first | done | omega)) only [go_sem, Int.reduceToNat, Nat.reduceMul, Nat.reduceAdd, Nat.reduceSub, ↓EU_region, ↓EU_draw], by simp (maxSteps := 1000000) (disch := first | decide | omega | (simp only [go_sem]; first | done | omega)) only [go_sem, Int.reduceToNat, Nat.reduceMul, Nat.reduceAdd, Nat.reduceSub, ↓EU_region, ↓EU_draw, g15], .inr ⟨x, by rw [Nat.add_sub_cancel]; exact hx, hlt⟩, bj⟩
      · have d : decide ((i : Int) < (j : Int)) = false := decide_eq_false (by omega)
        obtain rfl : i = j := by omega
        simp (maxSteps := 1000000) (disch := first | decide | omega | (simp only [go_sem]; first | done | omega)) only [go_sem, Int.reduceToNat, Nat.reduceMul, Nat.reduceAdd, Nat.reduceSub, ↓EU_region, ↓EU_draw, g14, g15, d]
        exact ⟨i, _, rfl, trivial, hi, hj, by simp (maxSteps := 1000000) (disch := first | decide | omega | (simp only [go_sem]; first | done | omega)) only [go_sem, Int.reduceToNat, Nat.reduceMul, Nat.reduceAdd, Nat.reduceSub, ↓EU_region, ↓EU_draw, g0], by simp (maxSteps := 1000000) (disch := first | decide | omega | (simp only [go_sem]; first | done | omega)) only [go_sem, Int.reduceToNat, Nat.reduceMul, Nat.reduceAdd, Nat.reduceSub, ↓EU_region, ↓EU_draw, g2], by simp (maxSteps := 1000000) (disch := first | decide | omega | (simp only [go_sem]; first | done | omega)) only [go_sem, Int.reduceToNat, Nat.reduceMul, Nat.reduceAdd, Nat.reduceSub, ↓EU_region, ↓EU_draw, g4], by simp (maxSteps := 1000000) (disch := first | decide | omega | (simp only [go_sem]; first | done | omega)) only [go_sem, Int.reduceToNat, Nat.reduceMul, Nat.reduceAdd, Nat.reduceSub, ↓EU_region, ↓EU_draw, g14], bi, bj⟩
    · exact ⟨a, m, _, rfl, rfl, Nat.le_refl _, by omega, Nat.le_refl _, by simp (maxSteps := 1000000) (disch := first | decide | omega | (simp only [go_sem]; first | done | omega)) only [go_sem, Int.reduceToNat, Nat.reduceMul, Nat.reduceAdd, Nat.reduceSub, ↓EU_region, ↓EU_draw], by simp (maxSteps := 1000000) (disch := first | decide | omega | (simp only [go_sem]; first | done | omega)) only [go_sem, Int.reduceToNat, Nat.reduceMul, Nat.reduceAdd, Nat.reduceSub, ↓EU_region, ↓EU_draw], by simp (maxSteps := 1000000) (disch := first | decide | omega | (simp only [go_sem]; first | done | omega)) only [go_sem, Int.reduceToNat, Nat.reduceMul, Nat.reduceAdd, Nat.reduceSub, ↓EU_region, ↓EU_draw], by simp (maxSteps := 1000000) (disch := first | decide | omega | (simp only [go_sem]; first | done | omega)) only [go_sem, Int.reduceToNat, Nat.reduceMul, Nat.reduceAdd, Nat.reduceSub, ↓EU_region, ↓EU_draw], by simp (maxSteps := 1000000) (disch := first | decide | omega | (simp only [go_sem]; first | done | omega)) only [go_sem, Int.reduceToNat, Nat.reduceMul, Nat.reduceAdd, Nat.reduceSub, ↓EU_region, ↓EU_draw], .inl rfl, .inl rfl⟩
    · omega
    rintro ⟨_, _⟩ ⟨i, tm, rfl, rfl, hi, him, g0, g2, g4, g14, bi, bj⟩
    have hbm : b = m + 1 := by clear bi bj; omega
    subst hbm
    have hpr : a ≤ i ∧ i ≤ m ∧ m ≤ m + 1 ∧ m + 1 ≤ m + 1 := by clear bi bj; omega
    have hfi : (i = a ∨ ∃ x y, l[i - 1]? = some x ∧ l[m]? = some y ∧ ltF F x y) := by
      by_cases hia : i = a
      · exact .inl hia
      · rcases bi with e1 | ⟨x, hx, hlt⟩
        · exact .inl e1
        · have hlt2 : i - 1 < m ∧ a ≤ i - 1 := by clear bj; omega
          have := asc (i - 1) m x f hlt2.2 hlt2.1 (Nat.le_refl _) (Nat.lt_succ_self _) hx hf
          exact .inr ⟨x, f, hx, hf, by unfold ltF; clear bj; omega⟩
    have hfj : (i = m ∨ ∃ x y, l[m]? = some x ∧ l[i]? = some y ∧ ltF F x y) := by
      rcases bj with e1 | ⟨x, hx, hlt⟩
      · exact .inl e1
      · exact .inr ⟨f, x, hf, hx, .inl hlt⟩
    clear bi bj
    obtain ⟨X, hX⟩ : ∃ X : Prop, X = ((i = a ∨ ∃ x y, l[i - 1]? = some x ∧ l[m]? = some y ∧ ltF F x y) ∧ (i = m ∨ ∃ x y, l[m]? = some x ∧ l[i]? = some y ∧ ltF F x y)) := ⟨_, rfl⟩
    have hXt : X := by rw [hX]; exact ⟨hfi, hfj⟩
    clear hfi hfj
    simp (maxSteps := 1000000) (disch := first | decide | omega | (simp only [go_sem]; first | done | omega)) only [go_sem, Int.reduceToNat, Nat.reduceMul, Nat.reduceAdd, Nat.reduceSub, ↓EU_region, ↓EU_draw, g2]
    repeat refine WPo_ob ?_
    refine (LP_rule (fun mm st => ∃ (k : Nat) (tm : Fr) (h2 : Heap) (l2 : List Int), st = ⟨tm, h2, []⟩ ∧ mm = k - i ∧ i ≤ k ∧ k ≤ m ∧ Fr.get tm 0 = s ∧ Fr.get tm 14 = .int .i64 (i : Int) ∧ Fr.get tm 17 = .int .i64 (k : Int) ∧ SS h0 s h2 l2 ∧ l2.Perm l ∧ ∀ p, l2[p]? = l[rtM k m (m + 1) p]?)
      (fun q => ∃ (tm : Fr) (h2 : Heap) (l2 : List Int), q.2 = ⟨tm, h2, []⟩ ∧ q.1 = .exit 6 ∧ SS h0 s h2 l2 ∧ l2.Perm l ∧ ∀ p, l2[p]? = l[rtM i m (m + 1) p]?) ?_ (m - i) _ _ ?_ ?_).mono ?_
    · clear g0 g2 g4 g14
      rintro mm _ ⟨k, tm, h2, l2, rfl, hmm, hk, hkm, g0, g14, g17, q2, p2, k2⟩
      have ll := p2.length_eq
      by_cases hq : i < k
      · have d : decide ((i : Int) < (k : Int)) = true := decide_eq_true (by omega)
        have w6 : wrapF .i64 ((k : Int) - 1) = ((k - 1 : Nat) : Int) := by rw [wrap64 (by omega)]; omega
        obtain ⟨x, hx⟩ : ∃ x, l2[k]? = some x := ⟨_, List.getElem?_eq_getElem (by omega)⟩
        obtain ⟨y, hy⟩ : ∃ x, l2[k - 1]? = some x := ⟨_, List.getElem?_eq_getElem (by omega)⟩
        obtain ⟨B, o, c, cs, hs, hB, hc, rx, ry, f1, f2, q3⟩ := q2.swap hx hy
        have gl := swL_get (x := x) (y := y) (l := l2) (i := k) (j := k - 1) (by omega) (by omega)
        rw [hs] at g0
        simp (maxSteps := 1000000) (disch := first | decide | omega | (simp only [go_sem]; first | done | omega)) only [go_sem, Int.reduceToNat, Nat.reduceMul, Nat.reduceAdd, Nat.reduceSub, ↓EU_region, ↓EU_draw, g0, g14, g17, d, w6, hc, rx, ry, Nat.mul_one]
        refine ⟨k - 1 - i, by omega, k - 1, _, _, _, rfl, rfl, by omega, by omega, by rw [hs]; simp (maxSteps := 1000000) (disch := first | decide | omega | (simp only [go_sem]; first | done | omega)) only [go_sem, Int.reduceToNat, Nat.reduceMul, Nat.reduceAdd, Nat.reduceSub, ↓EU_region, ↓EU_draw, g0], by simp (maxSteps := 1000000) (disch := first | decide | omega | (simp only [go_sem]; first | done | omega)) only [go_sem, Int.reduceToNat, Nat.reduceMul, Nat.reduceAdd, Nat.reduceSub, ↓EU_region, ↓EU_draw, g14], by simp (maxSteps := 1000000) (disch := first | decide | omega | (simp only [go_sem]; first | done | omega)) only [go_sem, Int.reduceToNat, Nat.reduceMul, Nat.reduceAdd, Nat.reduceSub, ↓EU_region, ↓EU_draw], q3, (swL_perm hx hy).trans p2, fun p => ?_⟩
        rw [gl]
        have u1 := k2 k
        have u2 := k2 (k - 1)
        have u3 := k2 p
        rw [hx] at u1
        rw [hy] at u2
        by_cases e1 : p = k - 1
        · rw [if_pos e1, u1]
          congr 1
          unfold rtM
          (repeat' split) <;> omega
        · rw [if_neg e1]
          by_cases e2 : p = k
          · rw [if_pos e2, u2]
            congr 1
            unfold rtM
            (repeat' split) <;> omega
          · rw [if_neg e2, u3]
            congr 1
            unfold rtM
            (repeat' split) <;> omega
      · have d : decide ((i : Int) < (k : Int)) = false := decide_eq_false (by omega)
        obtain rfl : i = k := by omega
        simp (maxSteps := 1000000) (disch := first | decide | omega | (simp only [go_sem]; first | done | omega)) only [go_sem, Int.reduceToNat, Nat.reduceMul, Nat.reduceAdd, Nat.reduceSub, ↓EU_region, ↓EU_draw, g14, g17, d]
        exact ⟨_, h2, l2, rfl, trivial, q2, p2, k2⟩
    · exact ⟨m, _, h, l, rfl, rfl, by omega, Nat.le_refl _, by simp (maxSteps := 1000000) (disch := first | decide | omega | (simp only [go_sem]; first | done | omega)) only [go_sem, Int.reduceToNat, Nat.reduceMul, Nat.reduceAdd, Nat.reduceSub, ↓EU_region, ↓EU_draw, g0], by simp (maxSteps := 1000000) (disch := first | decide | omega | (simp only [go_sem]; first | done | omega)) only [go_sem, Int.reduceToNat, Nat.reduceMul, Nat.reduceAdd, Nat.reduceSub, ↓EU_region, ↓EU_draw, g14], by simp (maxSteps := 1000000) (disch := first | decide | omega | (simp only [go_sem]; first | done | omega)) only [go_sem, Int.reduceToNat, Nat.reduceMul, Nat.reduceAdd, Nat.reduceSub, ↓EU_region, ↓EU_draw], q, List.Perm.refl _, fun p => by rw [rt_id (.inl rfl) (by omega) (by omega)]⟩
    · omega
    rintro ⟨_, _⟩ ⟨tm, h2, l2, rfl, rfl, q2, p2, k2⟩
    simp (maxSteps := 1000000) (disch := first | decide | omega | (simp only [go_sem]; first | done | omega)) only [go_sem, Int.reduceToNat, Nat.reduceMul, Nat.reduceAdd, Nat.reduceSub, ↓EU_region, ↓EU_draw]
    rw [hX] at hXt
    obtain ⟨hfi, hfj⟩ := hXt
    refine ⟨l2, q2, rt_RP hpr p2 k2, rt_srt hpr sU sV ?_ (fun p r x y h1 h2 h3 h4 => absurd (Nat.lt_of_le_of_lt h3 h4) (Nat.lt_irrefl _)) ?_ (fun p r x y h1 h2 h3 h4 => absurd (Nat.lt_of_le_of_lt h3 h4) (Nat.lt_irrefl _)) k2⟩
    · exact all_of' hi (Nat.le_succ _) (Nat.le_refl _) him sU sV (hfj.elim .inl fun e => .inr (.inr e))
    · exact all_of him (Nat.le_succ _) sU sV (Nat.le_refl _) (hfi.elim .inl fun e => .inr (.inr e))
  have d2 : decide (((b - m : Nat) : Int) = 1) = false := decide_eq_false (by omega)
  have w7 : wrapF .i64 ((a : Int) + (b : Int)) = ((a + b : Nat) : Int) := by rw [wrap64 (by omega)]; rfl
  have w8 : wrapF .i64 ((((a + b) / 2 : Nat) : Int) + (m : Int)) = (((a + b) / 2 + m : Nat) : Int) := by rw [wrap64 (by omega)]; rfl
  simp (maxSteps := 1000000) (disch := first | decide | omega | (simp only [go_sem]; first | done | omega)) only [go_sem, Int.reduceToNat, Nat.reduceMul, Nat.reduceAdd, Nat.reduceSub, ↓EU_region, ↓EU_draw, w1, d1, w2, d2, w7, sh1, w8]
  repeat refine WPo_ob ?_
  have hM : 2 * ((a + b) / 2) ≤ a + b ∧ a + b < 2 * ((a + b) / 2) + 2 := by omega
  have w9 : (b : Int) ≤ (((a + b) / 2 + m : Nat) : Int) → wrapF .i64 ((((a + b) / 2 + m : Nat) : Int) - (b : Int)) = (((a + b) / 2 + m - b : Nat) : Int) := fun hge => by rw [wrap64 (by omega)]; omega
  refine WPo.mono (Q := fun q => ∃ (lo hi : Nat) (tm : Fr), q = (.normal, ⟨tm, h, []⟩) ∧ ((((a + b) / 2 < m) ∧ lo + b = (a + b) / 2 + m ∧ hi = (a + b) / 2) ∨ (m ≤ (a + b) / 2 ∧ lo = a ∧ hi = m)) ∧ Fr.get tm 0 = s ∧ Fr.get tm 1 = .int .i64 (a : Int) ∧ Fr.get tm 2 = .int .i64 (m : Int) ∧ Fr.get tm 3 = .int .i64 (b : Int) ∧ Fr.get tm 4 = fv ∧ Fr.get tm 18 = .int .i64 (((a + b) / 2 : Nat) : Int) ∧ Fr.get tm 19 = .int .i64 (((a + b) / 2 + m : Nat) : Int) ∧ Fr.get tm 20 = .int .i64 (lo : Int) ∧ Fr.get tm 21 = .int .i64 (hi : Int)) ?_ ?_
  · by_cases hq : (a + b) / 2 < m
    · have d : decide ((((a + b) / 2 : Nat) : Int) < (m : Int)) = true := decide_eq_true (by omega)
      have w10 := w9 (by omega)
      simp (maxSteps := 1000000) (disch := first | decide | omega | (simp only [go_sem]; first | done | omega)) only [go_sem, Int.reduceToNat, Nat.reduceMul, Nat.reduceAdd, Nat.reduceSub, ↓EU_region, ↓EU_draw, d, w10]
      exact ⟨(a + b) / 2 + m - b, (a + b) / 2, _, rfl, .inl ⟨hq, by omega, rfl⟩, by simp (maxSteps := 1000000) (disch := first | decide | omega | (simp only [go_sem]; first | done | omega)) only [go_sem, Int.reduceToNat, Nat.reduceMul, Nat.reduceAdd, Nat.reduceSub, ↓EU_region, ↓EU_draw], by simp (maxSteps := 1000000) (disch := first | decide | omega | (simp only [go_sem]; first | done | omega)) only [go_sem, Int.reduceToNat, Nat.reduceMul, Nat.reduceAdd, Nat.reduceSub, ↓EU_region, ↓EU_draw], by simp (maxSteps := 1000000) (disch := first | decide | omega | (simp only [go_sem]; first | done | omega)) only [go_sem, Int.reduceToNat, Nat.reduceMul, Nat.reduceAdd, Nat.reduceSub, ↓EU_region, ↓EU_draw], by simp (maxSteps := 1000000) (disch := first | decide | omega | (simp only [go_sem]; first | done | omega)) only [go_sem, Int.reduceToNat, Nat.reduceMul, Nat.reduceAdd, Nat.reduceSub, ↓EU_region, ↓EU_draw], by simp (maxSteps := 1000000) (disch := first | decide | omega | (simp only [go_sem]; first | done | omega)) only [go_sem, Int.reduceToNat, Nat.reduceMul, Nat.reduceAdd, Nat.reduceSub, ↓EU_region, ↓EU_draw], by simp (maxSteps := 1000000) (disch := first | decide | omega | (simp only [go_sem]; first | done | omega)) only [go_sem, Int.reduceToNat, Nat.reduceMul, Nat.reduceAdd, Nat.reduceSub, ↓EU_region, ↓EU_draw], by simp (maxSteps := 1000000) (disch := first | decide | omega | (simp only [go_sem]; first | done | omega)) only [go_sem, Int.reduceToNat, Nat.reduceMul, Nat.reduceAdd, Nat.reduceSub, ↓EU_region, ↓EU_draw], by simp (maxSteps := 1000000) (disch := first | decide | omega | (simp only [go_sem]; first | done | omega)) only [go_sem, Int.reduceToNat, Nat.reduceMul, Nat.reduceAdd, Nat.reduceSub, ↓EU_region, ↓EU_draw], by simp (maxSteps := 1000000) (disch := first | decide | omega | (simp only [go_sem]; first | done | omega)) only [go_sem, Int.reduceToNat, Nat.reduceMul, Nat.reduceAdd, Nat.reduceSub, ↓EU_region, ↓EU_draw]⟩
    · have d : decide ((((a + b) / 2 : Nat) : Int) < (m : Int)) = false := decide_eq_false (by omega)
      simp (maxSteps := 1000000) (disch := first | decide | omega | (simp only [go_sem]; first | done | omega)) only [go_sem, Int.reduceToNat, Nat.reduceMul, Nat.reduceAdd, Nat.reduceSub, ↓EU_region, ↓EU_draw, d]
      exact ⟨a, m, _, rfl, .inr ⟨by omega, rfl, rfl⟩, by simp (maxSteps := 1000000) (disch := first | decide | omega | (simp only [go_sem]; first | done | omega)) only [go_sem, Int.reduceToNat, Nat.reduceMul, Nat.reduceAdd, Nat.reduceSub, ↓EU_region, ↓EU_draw], by simp (maxSteps := 1000000) (disch := first | decide | omega | (simp only [go_sem]; first | done | omega)) only [go_sem, Int.reduceToNat, Nat.reduceMul, Nat.reduceAdd, Nat.reduceSub, ↓EU_region, ↓EU_draw], by simp (maxSteps := 1000000) (disch := first | decide | omega | (simp only [go_sem]; first | done | omega)) only [go_sem, Int.reduceToNat, Nat.reduceMul, Nat.reduceAdd, Nat.reduceSub, ↓EU_region, ↓EU_draw], by simp (maxSteps := 1000000) (disch := first | decide | omega | (simp only [go_sem]; first | done | omega)) only [go_sem, Int.reduceToNat, Nat.reduceMul, Nat.reduceAdd, Nat.reduceSub, ↓EU_region, ↓EU_draw], by simp (maxSteps := 1000000) (disch := first | decide | omega | (simp only [go_sem]; first | done | omega)) only [go_sem, Int.reduceToNat, Nat.reduceMul, Nat.reduceAdd, Nat.reduceSub, ↓EU_region, ↓EU_draw], by simp (maxSteps := 1000000) (disch := first | decide | omega | (simp only [go_sem]; first | done | omega)) only [go_sem, Int.reduceToNat, Nat.reduceMul, Nat.reduceAdd, Nat.reduceSub, ↓EU_region, ↓EU_draw], by simp (maxSteps := 1000000) (disch := first | decide | omega | (simp only [go_sem]; first | done | omega)) only [go_sem, Int.reduceToNat, Nat.reduceMul, Nat.reduceAdd, Nat.reduceSub, ↓EU_region, ↓EU_draw], by simp (maxSteps := 1000000) (disch := first | decide | omega | (simp only [go_sem]; first | done | omega)) only [go_sem, Int.reduceToNat, Nat.reduceMul, Nat.reduceAdd, Nat.reduceSub, ↓EU_region, ↓EU_draw], by simp (maxSteps := 1000000) (disch := first | decide | omega | (simp only [go_sem]; first | done | omega)) only [go_sem, Int.reduceToNat, Nat.reduceMul, Nat.reduceAdd, Nat.reduceSub, ↓EU_region, ↓EU_draw]⟩
  clear w7 w8 w9 d1 d2 w1 w2
  generalize (a + b) / 2 = M at *
  rintro _ ⟨lo, hi, tm, rfl, hlh, g0, g1, g2, g3, g4, g18, g19, g20, g21⟩
  have w11 : wrapF .i64 (((M + m : Nat) : Int) - 1) = ((M + m - 1 : Nat) : Int) := by rw [wrap64 (by omega)]; omega
  have hlo : a ≤ lo ∧ lo ≤ hi ∧ hi ≤ m ∧ hi ≤ M ∧ M + m ≤ lo + b := by omega
  simp (maxSteps := 1000000) (disch := first | decide | omega | (simp only [go_sem]; first | done | omega)) only [go_sem, Int.reduceToNat, Nat.reduceMul, Nat.reduceAdd, Nat.reduceSub, ↓EU_region, ↓EU_draw, g19, w11]
  repeat refine WPo_ob ?_
  refine (LP_rule (fun mm st => ∃ (i j : Nat) (tm : Fr), st = ⟨tm, h, []⟩ ∧ mm = j - i ∧ lo ≤ i ∧ i ≤ j ∧ j ≤ hi ∧ Fr.get tm 0 = s ∧ Fr.get tm 1 = .int .i64 (a : Int) ∧ Fr.get tm 2 = .int .i64 (m : Int) ∧ Fr.get tm 3 = .int .i64 (b : Int) ∧ Fr.get tm 4 = fv ∧ Fr.get tm 18 = .int .i64 (M : Int) ∧ Fr.get tm 19 = .int .i64 ((M + m : Nat) : Int) ∧ Fr.get tm 20 = .int .i64 (i : Int) ∧ Fr.get tm 21 = .int .i64 (j : Int) ∧ Fr.get tm 22 = .int .i64 ((M + m - 1 : Nat) : Int) ∧ (i = lo ∨ ∃ x y, l[i - 1]? = some x ∧ l[M + m - i]? = some y ∧ ¬ F y < F x) ∧ (j = hi ∨ ∃ x y, l[j]? = some x ∧ l[M + m - 1 - j]? = some y ∧ F y < F x))
    (fun q => ∃ (i : Nat) (tm : Fr), q.2 = ⟨tm, h, []⟩ ∧ q.1 = .exit 8 ∧ lo ≤ i ∧ i ≤ hi ∧ Fr.get tm 0 = s ∧ Fr.get tm 1 = .int .i64 (a : Int) ∧ Fr.get tm 2 = .int .i64 (m : Int) ∧ Fr.get tm 3 = .int .i64 (b : Int) ∧ Fr.get tm 4 = fv ∧ Fr.get tm 18 = .int .i64 (M : Int) ∧ Fr.get tm 19 = .int .i64 ((M + m : Nat) : Int) ∧ Fr.get tm 20 = .int .i64 (i : Int) ∧ (i = lo ∨ ∃ x y, l[i - 1]? = some x ∧ l[M + m - i]? = some y ∧ ¬ F y < F x) ∧ (i = hi ∨ ∃ x y, l[i]? = some x ∧ l[M + m - 1 - i]? = some y ∧ F y < F x)) ?_ (hi - lo) _ _ ?_ ?_).mono ?_
  · clear g0 g1 g2 g3 g4 g18 g19 g20 g21
    rintro mm _ ⟨i, j, tm, rfl, hmm, hi1, hij, hj, g0, g1, g2, g3, g4, g18, g19, g20, g21, g22, bi, bj⟩
    by_cases hq : i < j
    · have hA : j - ((i + j) / 2 + 1) < mm ∧ (i + j) / 2 - i < mm ∧ lo ≤ (i + j) / 2 ∧ i ≤ (i + j) / 2 ∧ (i + j) / 2 + 1 ≤ j ∧ (i + j) / 2 ≤ hi ∧ (i + j) / 2 + 1 ≤ M + m ∧ M + m - 1 - (i + j) / 2 < l.length := by clear bi bj; omega
      obtain ⟨a1, a2, a3, a4, a5, a6, a7, a8⟩ := hA
      have d : decide ((i : Int) < (j : Int)) = true := decide_eq_true (by omega)
      have w3 : wrapF .i64 ((i : Int) + (j : Int)) = ((i + j : Nat) : Int) := by rw [wrap64 (by omega)]; rfl
      have w12 : wrapF .i64 (((M + m - 1 : Nat) : Int) - (((i + j) / 2 : Nat) : Int)) = ((M + m - 1 - (i + j) / 2 : Nat) : Int) := by rw [wrap64 (by clear bi bj; omega)]; clear bi bj; omega
      obtain ⟨x, hx⟩ : ∃ x, l[(i + j) / 2]? = some x := ⟨_, List.getElem?_eq_getElem (by clear bi bj; omega)⟩
      obtain ⟨y, hy⟩ : ∃ x, l[M + m - 1 - (i + j) / 2]? = some x := ⟨_, List.getElem?_eq_getElem a8⟩
      obtain ⟨B, o, c, hs, rx⟩ := rd hx
      obtain ⟨B', o', c', hs', ry⟩ := rd hy
      rw [hs] at hs'
      cases hs'
      have hcall := C h q.md y x (hmem hy) (hmem hx)
      rw [hs] at g0
      have clt := cmpI_lt (F y) (F x)
      have w4 : wrapF .i64 (((i + j) / 2 : Nat) + 1 : Int) = (((i + j) / 2 + 1 : Nat) : Int) := by rw [wrap64 (by clear bi bj hcall hx hy; omega)]; rfl
      have hcl : (i + j) / 2 < l.length := by clear bi bj; omega
      have e1 : F y < F x ∨ ¬ F y < F x := Decidable.em _
      rcases e1 with hlt | hlt
      · rw [decide_eq_true hlt] at clt
        simp (maxSteps := 1000000) (disch := first | decide | omega | (simp only [go_sem]; first | done | omega)) only [go_sem, Int.reduceToNat, Nat.reduceMul, Nat.reduceAdd, Nat.reduceSub, ↓EU_region, ↓EU_draw, g0, g4, g20, g21, g22, d, w3, sh1, w12, rx, ry, Nat.mul_one, hcall, clt]
        exact ⟨(i + j) / 2 - i, a2, i, (i + j) / 2, _, rfl, rfl, hi1, a4, a6, by rw [hs]; simp (maxSteps := 1000000) (disch := first | decide | omega | (simp only [go_sem]; first | done | omega)) only [go_sem, Int.reduceToNat, Nat.reduceMul, Nat.reduceAdd, Nat.reduceSub, ↓EU_region, ↓EU_draw, g0], by simp (maxSteps := 1000000) (disch := first | decide | omega | (simp only [go_sem]; first | done | omega)) only [go_sem, Int.reduceToNat, Nat.reduceMul, Nat.reduceAdd, Nat.reduceSub, ↓EU_region, ↓EU_draw, g1], by simp (maxSteps := 1000000) (disch := first | decide | omega | (simp only [go_sem]; first | done | omega)) only [go_sem, Int.reduceToNat, Nat.reduceMul, Nat.reduceAdd, Nat.reduceSub, ↓EU_region, ↓EU_draw, g2], by simp (maxSteps := 1000000) (disch := first | decide | omega | (simp only [go_sem]; first | done | omega)) only [go_sem, Int.reduceToNat, Nat.reduceMul, Nat.reduceAdd, Nat.reduceSub, ↓EU_region, ↓EU_draw, g3], by simp (maxSteps := 1000000) (disch := first | decide | omega | (simp only [go_sem]; first | done | omega)) only [go_sem, Int.reduceToNat, Nat.reduceMul, Nat.reduceAdd, Nat.reduceSub, ↓EU_region, ↓EU_draw, g4], by simp (maxSteps := 1000000) (disch := first | decide | omega | (simp only [go_sem]; first | done | omega)) only [go_sem, Int.reduceToNat, Nat.reduceMul, Nat.reduceAdd, Nat.reduceSub, ↓EU_region, ↓EU_draw, g18], by simp (maxSteps := 1000000) (disch := first | decide | omega | (simp only [go_sem]; first | done | omega)) only [go_sem, Int.reduceToNat, Nat.reduceMul, Nat.reduceAdd, Nat.reduceSub, ↓EU_region, ↓EU_draw, g19], by simp (maxSteps := 1000000) (disch := first | decide | omega | (simp only [go_sem]; first | done | omega)) only [go_sem, Int.reduceToNat, Nat.reduceMul, Nat.reduceAdd, Nat.reduceSub, ↓EU_region, ↓EU_draw, g20], by simp (maxSteps := 1000000) (disch := first | decide | omega | (simp only [go_sem]; first | done | omega)) only [go_sem, Int.reduceToNat, Nat.reduceMul, Nat.reduceAdd, Nat.reduceSub, ↓EU_region, ↓EU_draw], by simp (maxSteps := 1000000) (disch := first | decide | omega | (simp only [go_sem]; first | done | omega)) only [go_sem, Int.reduceToNat, Nat.reduceMul, Nat.reduceAdd, Nat.reduceSub, ↓EU_region, ↓EU_draw, g22], bi, .inr ⟨x, y, hx, hy, hlt⟩⟩
      · rw [decide_eq_false hlt] at clt
        have hidx : M + m - ((i + j) / 2 + 1) = M + m - 1 - (i + j) / 2 := by clear bi bj; omega
        simp (maxSteps := 1000000) (disch := first | decide | omega | (simp only [go_sem]; first | done | omega)) only [go_sem, Int.reduceToNat, Nat.reduceMul, Nat.reduceAdd, Nat.reduceSub, ↓EU_region, ↓EU_draw, g0, g4, g20, g21, g22, d, w3, sh1, w12, rx, ry, Nat.mul_one, hcall, clt, w4]
        exact ⟨j - ((i + j) / 2 + 1), a1, (i + j) / 2 + 1, j, _, rfl, rfl, Nat.le_succ_of_le a3, a5, hj, by rw [hs]; simp (maxSteps := 1000000) (disch := first | decide | omega | (simp only [go_sem]; first | done | omega)) only [go_sem, Int.reduceToNat, Nat.reduceMul, Nat.reduceAdd, Nat.reduceSub, ↓EU_region, ↓EU_draw, g0], by simp (maxSteps := 1000000) (disch := first | decide | omega | (simp only [go_sem]; first | done | omega)) only [go_sem, Int.reduceToNat, Nat.reduceMul, Nat.reduceAdd, Nat.reduceSub, ↓EU_region, ↓EU_draw, g1], by simp (maxSteps := 1000000) (disch := first | decide | omega | (simp only [go_sem]; first | done | omega)) only [go_sem, Int.reduceToNat, Nat.reduceMul, Nat.reduceAdd, Nat.reduceSub, ↓EU_region, ↓EU_draw, g2], by simp (maxSteps := 1000000) (disch := first | decide | omega | (simp only [go_sem]; first | done | omega)) only [go_sem, Int.reduceToNat, Nat.reduceMul, Nat.reduceAdd, Nat.reduceSub, ↓EU_region, ↓EU_draw, g3], by simp (maxSteps := 1000000) (disch := first | decide | omega | (simp only [go_sem]; first | done | omega)) only [go_sem, Int.reduceToNat, Nat.reduceMul, Nat.reduceAdd, Nat.reduceSub, ↓EU_region, ↓EU_draw, g4], by simp (maxSteps := 1000000) (disch := first | decide | omega | (simp only [go_sem]; first | done | omega)) only [go_sem, Int.reduceToNat, Nat.reduceMul, Nat.reduceAdd, Nat.reduceSub, ↓EU_region, ↓EU_draw, g18], by simp (maxSteps := 1000000) (disch := first | decide | omega | (simp only [go_sem]; first | done | omega)) only [go_sem, Int.reduceToNat, Nat.reduceMul, Nat.reduceAdd, Nat.reduceSub, ↓EU_region, ↓EU_draw, g19], by simp (maxSteps := 1000000) (disch := first | decide | omega | (simp only [go_sem]; first | done | omega)) only [go_sem, Int.reduceToNat, Nat.reduceMul, Nat.reduceAdd, Nat.reduceSub, ↓EU_region, ↓EU_draw], by simp (maxSteps := 1000000) (disch := first | decide | omega | (simp only [go_sem]; first | done | omega)) only [go_sem, Int.reduceToNat, Nat.reduceMul, Nat.reduceAdd, Nat.reduceSub, ↓EU_region, ↓EU_draw, g21], by simp (maxSteps := 1000000) (disch := first | decide | omega | (simp only [go_sem]; first | done | omega)) only [go_sem, Int.reduceToNat, Nat.reduceMul, Nat.reduceAdd, Nat.reduceSub, ↓EU_region, ↓EU_draw, g22], .inr ⟨x, y, by rw [Nat.add_sub_cancel]; exact hx, by rw [hidx]; exact hy, hlt⟩, bj⟩
    · have d : decide ((i : Int) < (j : Int)) = false := decide_eq_false (by omega)
      obtain rfl : i = j := by omega
      simp (maxSteps := 1000000) (disch := first | decide | omega | (simp only [go_sem]; first | done | omega)) only [go_sem, Int.reduceToNat, Nat.reduceMul, Nat.reduceAdd, Nat.reduceSub, ↓EU_region, ↓EU_draw, g20, g21, d]
      exact ⟨i, _, rfl, trivial, hi1, hj, by simp (maxSteps := 1000000) (disch := first | decide | omega | (simp only [go_sem]; first | done | omega)) only [go_sem, Int.reduceToNat, Nat.reduceMul, Nat.reduceAdd, Nat.reduceSub, ↓EU_region, ↓EU_draw, g0], by simp (maxSteps := 1000000) (disch := first | decide | omega | (simp only [go_sem]; first | done | omega)) only [go_sem, Int.reduceToNat, Nat.reduceMul, Nat.reduceAdd, Nat.reduceSub, ↓EU_region, ↓EU_draw, g1], by simp (maxSteps := 1000000) (disch := first | decide | omega | (simp only [go_sem]; first | done | omega)) only [go_sem, Int.reduceToNat, Nat.reduceMul, Nat.reduceAdd, Nat.reduceSub, ↓EU_region, ↓EU_draw, g2], by simp (maxSteps := 1000000) (disch := first | decide | omega | (simp only [go_sem]; first | done | omega)) only [go_sem, Int.reduceToNat, Nat.reduceMul, Nat.reduceAdd, Nat.reduceSub, ↓EU_region, ↓EU_draw, g3], by simp (maxSteps := 1000000) (disch := first | decide | omega | (simp only [go_sem]; first | done | omega)) only [go_sem, Int.reduceToNat, Nat.reduceMul, Nat.reduceAdd, Nat.reduceSub, ↓EU_region, ↓EU_draw, g4], by simp (maxSteps := 1000000) (disch := first | decide | omega | (simp only [go_sem]; first | done | omega)) only [go_sem, Int.reduceToNat, Nat.reduceMul, Nat.reduceAdd, Nat.reduceSub, ↓EU_region, ↓EU_draw, g18], by simp (maxSteps := 1000000) (disch := first | decide | omega | (simp only [go_sem]; first | done | omega)) only [go_sem, Int.reduceToNat, Nat.reduceMul, Nat.reduceAdd, Nat.reduceSub, ↓EU_region, ↓EU_draw, g19], by simp (maxSteps := 1000000) (disch := first | decide | omega | (simp only [go_sem]; first | done | omega)) only [go_sem, Int.reduceToNat, Nat.reduceMul, Nat.reduceAdd, Nat.reduceSub, ↓EU_region, ↓EU_draw, g20], bi, bj⟩
  · exact ⟨lo, hi, _, rfl, rfl, Nat.le_refl _, hlo.2.1, Nat.le_refl _, by simp (maxSteps := 1000000) (disch := first | decide | omega | (simp only [go_sem]; first | done | omega)) only [go_sem, Int.reduceToNat, Nat.reduceMul, Nat.reduceAdd, Nat.reduceSub, ↓EU_region, ↓EU_draw, g0], by simp (maxSteps := 1000000) (disch := first | decide | omega | (simp only [go_sem]; first | done | omega)) only [go_sem, Int.reduceToNat, Nat.reduceMul, Nat.reduceAdd, Nat.reduceSub, ↓EU_region, ↓EU_draw, g1], by simp (maxSteps := 1000000) (disch := first | decide | omega | (simp only [go_sem]; first | done | omega)) only [go_sem, Int.reduceToNat, Nat.reduceMul, Nat.reduceAdd, Nat.reduceSub, ↓EU_region, ↓EU_draw, g2], by simp (maxSteps := 1000000) (disch := first | decide | omega | (simp only [go_sem]; first | done | omega)) only [go_sem, Int.reduceToNat, Nat.reduceMul, Nat.reduceAdd, Nat.reduceSub, ↓EU_region, ↓EU_draw, g3], by simp (maxSteps := 1000000) (disch := first | decide | omega | (simp only [go_sem]; first | done | omega)) only [go_sem, Int.reduceToNat, Nat.reduceMul, Nat.reduceAdd, Nat.reduceSub, ↓EU_region, ↓EU_draw, g4], by simp (maxSteps := 1000000) (disch := first | decide | omega | (simp only [go_sem]; first | done | omega)) only [go_sem, Int.reduceToNat, Nat.reduceMul, Nat.reduceAdd, Nat.reduceSub, ↓EU_region, ↓EU_draw, g18], by simp (maxSteps := 1000000) (disch := first | decide | omega | (simp only [go_sem]; first | done | omega)) only [go_sem, Int.reduceToNat, Nat.reduceMul, Nat.reduceAdd, Nat.reduceSub, ↓EU_region, ↓EU_draw, g19], by simp (maxSteps := 1000000) (disch := first | decide | omega | (simp only [go_sem]; first | done | omega)) only [go_sem, Int.reduceToNat, Nat.reduceMul, Nat.reduceAdd, Nat.reduceSub, ↓EU_region, ↓EU_draw, g20], by simp (maxSteps := 1000000) (disch := first | decide | omega | (simp only [go_sem]; first | done | omega)) only [go_sem, Int.reduceToNat, Nat.reduceMul, Nat.reduceAdd, Nat.reduceSub, ↓EU_region, ↓EU_draw, g21], by simp (maxSteps := 1000000) (disch := first | decide | omega | (simp only [go_sem]; first | done | omega)) only [go_sem, Int.reduceToNat, Nat.reduceMul, Nat.reduceAdd, Nat.reduceSub, ↓EU_region, ↓EU_draw], .inl rfl, .inl rfl⟩
  · omega
  clear g0 g1 g2 g3 g4 g18 g19 g20 g21
  rintro ⟨_, _⟩ ⟨t, tm, rfl, rfl, ht1, ht2, g0, g1, g2, g3, g4, g18, g19, g20, bi, bj⟩
  have hR1 : AllLt F l a t (M + m - t) b := by
    refine all_of (m := m) (by clear bi bj; omega) (by clear bi bj; omega) sU sV (by clear bi bj; omega) ?_
    by_cases ht : t = lo
    · rcases hlh with ⟨u1, u2, u3⟩ | ⟨u1, u2, u3⟩
      · exact .inr (.inl (by clear bi bj; omega))
      · exact .inl (by clear bi bj; omega)
    · rcases bi with e1 | ⟨x, y, hx, hy, hlt⟩
      · exact absurd e1 ht
      · have hh : a ≤ t - 1 ∧ t - 1 < m ∧ m ≤ M + m - t ∧ M + m - t < b := by clear bj; omega
        have := asc (t - 1) (M + m - t) x y hh.1 hh.2.1 hh.2.2.1 hh.2.2.2 hx hy
        exact .inr (.inr ⟨x, y, hx, hy, by unfold ltF; clear bj; omega⟩)
  have hR2 : AllLt F l m (M + m - t) t m := by
    refine all_of' (a := a) (b := b) (by clear bi bj; omega) (by clear bi bj; omega) (by clear bi bj; omega) (by clear bi bj; omega) sU sV ?_
    rcases bj with e1 | ⟨x, y, hx, hy, hlt⟩
    · rcases hlh with ⟨u1, u2, u3⟩ | ⟨u1, u2, u3⟩
      · exact .inr (.inl (by clear bi; omega))
      · exact .inl (by clear bi; omega)
    · have hh : M + m - t - 1 = M + m - 1 - t := by clear bi; omega
      exact .inr (.inr ⟨y, x, by rw [hh]; exact hy, hx, .inl hlt⟩)
  clear bi bj
  have hpr : a ≤ t ∧ t ≤ m ∧ m ≤ M + m - t ∧ M + m - t ≤ b := by omega
  have hMt : t + (M + m - t - m) = M := by omega
  have hE1 : M ≤ M + m - t := by omega
  have w13 : wrapF .i64 (((M + m : Nat) : Int) - (t : Int)) = ((M + m - t : Nat) : Int) := by rw [wrap64 (by omega)]; omega
  simp (maxSteps := 1000000) (disch := first | decide | omega | (simp only [go_sem]; first | done | omega)) only [go_sem, Int.reduceToNat, Nat.reduceMul, Nat.reduceAdd, Nat.reduceSub]
  rw [EU_region]
  simp (maxSteps := 1000000) (disch := first | decide | omega | (simp only [go_sem]; first | done | omega)) only [go_sem, Int.reduceToNat, Nat.reduceMul, Nat.reduceAdd, Nat.reduceSub, g19, g20, w13]
  repeat refine WPo_ob ?_
  have hE : M + m - t = M + m - t := rfl
  generalize M + m - t = E at *
  clear hE
  refine WPo.mono2 (Q := fun q => ∃ (tm : Fr) (h2 : Heap) (l2 : List Int), q = (.normal, ⟨tm, h2, []⟩) ∧ Fr.get tm 0 = s ∧ Fr.get tm 1 = .int .i64 (a : Int) ∧ Fr.get tm 3 = .int .i64 (b : Int) ∧ Fr.get tm 4 = fv ∧ Fr.get tm 18 = .int .i64 (M : Int) ∧ Fr.get tm 20 = .int .i64 (t : Int) ∧ Fr.get tm 24 = .int .i64 (E : Int) ∧ SS h0 s h2 l2 ∧ l2.Perm l ∧ ∀ k, l2[k]? = l[rtM t m E k]?) ?_ ?_
  · by_cases k1 : t < m
    · have d1 : decide ((t : Int) < (m : Int)) = true := decide_eq_true (by omega)
      by_cases k2 : m < E
      · have d2 : decide ((m : Int) < (E : Int)) = true := decide_eq_true (by omega)
        simp (maxSteps := 1000000) (disch := first | decide | omega | (simp only [go_sem]; first | done | omega)) only [go_sem, Int.reduceToNat, Nat.reduceMul, Nat.reduceAdd, Nat.reduceSub, ↓EU_region, ↓EU_draw, g20, g2, d1, d2, g0, g4]
        repeat refine WPo_ob ?_
        refine (rotate_ev q t m E k1 k2 (by omega) hl).mono ?_
        rintro ⟨v, h2⟩ ⟨l2, q2, p2, e2⟩
        simp (maxSteps := 1000000) (disch := first | decide | omega | (simp only [go_sem]; first | done | omega)) only [go_sem, Int.reduceToNat, Nat.reduceMul, Nat.reduceAdd, Nat.reduceSub, ↓EU_region, ↓EU_draw]
        exact ⟨_, h2, l2, rfl, by simp (maxSteps := 1000000) (disch := first | decide | omega | (simp only [go_sem]; first | done | omega)) only [go_sem, Int.reduceToNat, Nat.reduceMul, Nat.reduceAdd, Nat.reduceSub, ↓EU_region, ↓EU_draw, g0], by simp (maxSteps := 1000000) (disch := first | decide | omega | (simp only [go_sem]; first | done | omega)) only [go_sem, Int.reduceToNat, Nat.reduceMul, Nat.reduceAdd, Nat.reduceSub, ↓EU_region, ↓EU_draw, g1], by simp (maxSteps := 1000000) (disch := first | decide | omega | (simp only [go_sem]; first | done | omega)) only [go_sem, Int.reduceToNat, Nat.reduceMul, Nat.reduceAdd, Nat.reduceSub, ↓EU_region, ↓EU_draw, g3], by simp (maxSteps := 1000000) (disch := first | decide | omega | (simp only [go_sem]; first | done | omega)) only [go_sem, Int.reduceToNat, Nat.reduceMul, Nat.reduceAdd, Nat.reduceSub, ↓EU_region, ↓EU_draw, g4], by simp (maxSteps := 1000000) (disch := first | decide | omega | (simp only [go_sem]; first | done | omega)) only [go_sem, Int.reduceToNat, Nat.reduceMul, Nat.reduceAdd, Nat.reduceSub, ↓EU_region, ↓EU_draw, g18], by simp (maxSteps := 1000000) (disch := first | decide | omega | (simp only [go_sem]; first | done | omega)) only [go_sem, Int.reduceToNat, Nat.reduceMul, Nat.reduceAdd, Nat.reduceSub, ↓EU_region, ↓EU_draw, g20], by simp (maxSteps := 1000000) (disch := first | decide | omega | (simp only [go_sem]; first | done | omega)) only [go_sem, Int.reduceToNat, Nat.reduceMul, Nat.reduceAdd, Nat.reduceSub, ↓EU_region, ↓EU_draw], q2, p2, e2⟩
      · have d2 : decide ((m : Int) < (E : Int)) = false := decide_eq_false (by omega)
        simp (maxSteps := 1000000) (disch := first | decide | omega | (simp only [go_sem]; first | done | omega)) only [go_sem, Int.reduceToNat, Nat.reduceMul, Nat.reduceAdd, Nat.reduceSub, ↓EU_region, ↓EU_draw, g20, g2, d1, d2]
        exact ⟨_, h, l, rfl, by simp (maxSteps := 1000000) (disch := first | decide | omega | (simp only [go_sem]; first | done | omega)) only [go_sem, Int.reduceToNat, Nat.reduceMul, Nat.reduceAdd, Nat.reduceSub, ↓EU_region, ↓EU_draw, g0], by simp (maxSteps := 1000000) (disch := first | decide | omega | (simp only [go_sem]; first | done | omega)) only [go_sem, Int.reduceToNat, Nat.reduceMul, Nat.reduceAdd, Nat.reduceSub, ↓EU_region, ↓EU_draw, g1], by simp (maxSteps := 1000000) (disch := first | decide | omega | (simp only [go_sem]; first | done | omega)) only [go_sem, Int.reduceToNat, Nat.reduceMul, Nat.reduceAdd, Nat.reduceSub, ↓EU_region, ↓EU_draw, g3], by simp (maxSteps := 1000000) (disch := first | decide | omega | (simp only [go_sem]; first | done | omega)) only [go_sem, Int.reduceToNat, Nat.reduceMul, Nat.reduceAdd, Nat.reduceSub, ↓EU_region, ↓EU_draw, g4], by simp (maxSteps := 1000000) (disch := first | decide | omega | (simp only [go_sem]; first | done | omega)) only [go_sem, Int.reduceToNat, Nat.reduceMul, Nat.reduceAdd, Nat.reduceSub, ↓EU_region, ↓EU_draw, g18], by simp (maxSteps := 1000000) (disch := first | decide | omega | (simp only [go_sem]; first | done | omega)) only [go_sem, Int.reduceToNat, Nat.reduceMul, Nat.reduceAdd, Nat.reduceSub, ↓EU_region, ↓EU_draw, g20], by simp (maxSteps := 1000000) (disch := first | decide | omega | (simp only [go_sem]; first | done | omega)) only [go_sem, Int.reduceToNat, Nat.reduceMul, Nat.reduceAdd, Nat.reduceSub, ↓EU_region, ↓EU_draw], q, List.Perm.refl _, fun k => by rw [rt_id (.inr (by omega)) (by omega) (by omega)]⟩
    · have d1 : decide ((t : Int) < (m : Int)) = false := decide_eq_false (by omega)
      simp (maxSteps := 1000000) (disch := first | decide | omega | (simp only [go_sem]; first | done | omega)) only [go_sem, Int.reduceToNat, Nat.reduceMul, Nat.reduceAdd, Nat.reduceSub, ↓EU_region, ↓EU_draw, g20, g2, d1]
      exact ⟨_, h, l, rfl, by simp (maxSteps := 1000000) (disch := first | decide | omega | (simp only [go_sem]; first | done | omega)) only [go_sem, Int.reduceToNat, Nat.reduceMul, Nat.reduceAdd, Nat.reduceSub, ↓EU_region, ↓EU_draw, g0], by simp (maxSteps := 1000000) (disch := first | decide | omega | (simp only [go_sem]; first | done | omega)) only [go_sem, Int.reduceToNat, Nat.reduceMul, Nat.reduceAdd, Nat.reduceSub, ↓EU_region, ↓EU_draw, g1], by simp (maxSteps := 1000000) (disch := first | decide | omega | (simp only [go_sem]; first | done | omega)) only [go_sem, Int.reduceToNat, Nat.reduceMul, Nat.reduceAdd, Nat.reduceSub, ↓EU_region, ↓EU_draw, g3], by simp (maxSteps := 1000000) (disch := first | decide | omega | (simp only [go_sem]; first | done | omega)) only [go_sem, Int.reduceToNat, Nat.reduceMul, Nat.reduceAdd, Nat.reduceSub, ↓EU_region, ↓EU_draw, g4], by simp (maxSteps := 1000000) (disch := first | decide | omega | (simp only [go_sem]; first | done | omega)) only [go_sem, Int.reduceToNat, Nat.reduceMul, Nat.reduceAdd, Nat.reduceSub, ↓EU_region, ↓EU_draw, g18], by simp (maxSteps := 1000000) (disch := first | decide | omega | (simp only [go_sem]; first | done | omega)) only [go_sem, Int.reduceToNat, Nat.reduceMul, Nat.reduceAdd, Nat.reduceSub, ↓EU_region, ↓EU_draw, g20], by simp (maxSteps := 1000000) (disch := first | decide | omega | (simp only [go_sem]; first | done | omega)) only [go_sem, Int.reduceToNat, Nat.reduceMul, Nat.reduceAdd, Nat.reduceSub, ↓EU_region, ↓EU_draw], q, List.Perm.refl _, fun k => by rw [rt_id (.inl (by omega)) (by omega) (by omega)]⟩
  clear g0 g1 g2 g3 g4 g18 g19 g20
  rintro _ ⟨tm, h2, l2, rfl, g0, g1, g3, g4, g18, g20, g24, q2, p2, k2⟩
  have ll2 := p2.length_eq
  obtain ⟨s1, s2, s3, s4, as1, as2⟩ := rt_one hpr sU sV asc k2
  have hcr := rt_cross hpr sU sV hR1 hR2 k2
  have rp2 := rt_RP hpr p2 k2
  rw [hMt] at s2 s3 as1 as2 hcr
  have hok2 : ∀ x ∈ l2, ok x := fun x hx => hok x (p2.mem_iff.1 hx)
  simp (maxSteps := 1000000) (disch := first | decide | omega | (simp only [go_sem]; first | done | omega)) only [go_sem, Int.reduceToNat, Nat.reduceMul, Nat.reduceAdd, Nat.reduceSub]
  repeat refine WPo_ob ?_
  refine WPo.mono2 (Q := fun q => ∃ (tm : Fr) (h3 : Heap) (l3 : List Int), q = (.normal, ⟨tm, h3, []⟩) ∧ Fr.get tm 0 = s ∧ Fr.get tm 3 = .int .i64 (b : Int) ∧ Fr.get tm 4 = fv ∧ Fr.get tm 18 = .int .i64 (M : Int) ∧ Fr.get tm 24 = .int .i64 (E : Int) ∧ SS h0 s h3 l3 ∧ RP a M l2 l3 ∧ SrtOn F l3 a M) ?_ ?_
  · by_cases k1 : a < t
    · have d1 : decide ((a : Int) < (t : Int)) = true := decide_eq_true (by omega)
      by_cases k2 : t < M
      · have d2 : decide ((t : Int) < (M : Int)) = true := decide_eq_true (by omega)
        simp (maxSteps := 1000000) (disch := first | decide | omega | (simp only [go_sem]; first | done | omega)) only [go_sem, Int.reduceToNat, Nat.reduceMul, Nat.reduceAdd, Nat.reduceSub, ↓EU_region, ↓EU_draw, g0, g1, g18, g20, g4, d1, d2]
        repeat refine WPo_ob ?_
        refine (ih (M - a) (by omega) a t M h2 l2 rfl q2 hok2 k1 k2 (by omega) (by omega) s1 s2 as1).mono ?_
        rintro ⟨v, h3⟩ ⟨l3, q3, r3, s3'⟩
        simp (maxSteps := 1000000) (disch := first | decide | omega | (simp only [go_sem]; first | done | omega)) only [go_sem, Int.reduceToNat, Nat.reduceMul, Nat.reduceAdd, Nat.reduceSub, ↓EU_region, ↓EU_draw]
        exact ⟨_, h3, l3, rfl, by simp (maxSteps := 1000000) (disch := first | decide | omega | (simp only [go_sem]; first | done | omega)) only [go_sem, Int.reduceToNat, Nat.reduceMul, Nat.reduceAdd, Nat.reduceSub, ↓EU_region, ↓EU_draw, g0], by simp (maxSteps := 1000000) (disch := first | decide | omega | (simp only [go_sem]; first | done | omega)) only [go_sem, Int.reduceToNat, Nat.reduceMul, Nat.reduceAdd, Nat.reduceSub, ↓EU_region, ↓EU_draw, g3], by simp (maxSteps := 1000000) (disch := first | decide | omega | (simp only [go_sem]; first | done | omega)) only [go_sem, Int.reduceToNat, Nat.reduceMul, Nat.reduceAdd, Nat.reduceSub, ↓EU_region, ↓EU_draw, g4], by simp (maxSteps := 1000000) (disch := first | decide | omega | (simp only [go_sem]; first | done | omega)) only [go_sem, Int.reduceToNat, Nat.reduceMul, Nat.reduceAdd, Nat.reduceSub, ↓EU_region, ↓EU_draw, g18], by simp (maxSteps := 1000000) (disch := first | decide | omega | (simp only [go_sem]; first | done | omega)) only [go_sem, Int.reduceToNat, Nat.reduceMul, Nat.reduceAdd, Nat.reduceSub, ↓EU_region, ↓EU_draw, g24], q3, r3, s3'⟩
      · have d2 : decide ((t : Int) < (M : Int)) = false := decide_eq_false (by omega)
        obtain rfl : t = M := by omega
        simp (maxSteps := 1000000) (disch := first | decide | omega | (simp only [go_sem]; first | done | omega)) only [go_sem, Int.reduceToNat, Nat.reduceMul, Nat.reduceAdd, Nat.reduceSub, ↓EU_region, ↓EU_draw, g1, g18, g20, d1, d2]
        exact ⟨_, h2, l2, rfl, by simp (maxSteps := 1000000) (disch := first | decide | omega | (simp only [go_sem]; first | done | omega)) only [go_sem, Int.reduceToNat, Nat.reduceMul, Nat.reduceAdd, Nat.reduceSub, ↓EU_region, ↓EU_draw, g0], by simp (maxSteps := 1000000) (disch := first | decide | omega | (simp only [go_sem]; first | done | omega)) only [go_sem, Int.reduceToNat, Nat.reduceMul, Nat.reduceAdd, Nat.reduceSub, ↓EU_region, ↓EU_draw, g3], by simp (maxSteps := 1000000) (disch := first | decide | omega | (simp only [go_sem]; first | done | omega)) only [go_sem, Int.reduceToNat, Nat.reduceMul, Nat.reduceAdd, Nat.reduceSub, ↓EU_region, ↓EU_draw, g4], by simp (maxSteps := 1000000) (disch := first | decide | omega | (simp only [go_sem]; first | done | omega)) only [go_sem, Int.reduceToNat, Nat.reduceMul, Nat.reduceAdd, Nat.reduceSub, ↓EU_region, ↓EU_draw, g18], by simp (maxSteps := 1000000) (disch := first | decide | omega | (simp only [go_sem]; first | done | omega)) only [go_sem, Int.reduceToNat, Nat.reduceMul, Nat.reduceAdd, Nat.reduceSub, ↓EU_region, ↓EU_draw, g24], q2, RP.refl _ _ _, s1⟩
    · have d1 : decide ((a : Int) < (t : Int)) = false := decide_eq_false (by omega)
      obtain rfl : a = t := by omega
      simp (maxSteps := 1000000) (disch := first | decide | omega | (simp only [go_sem]; first | done | omega)) only [go_sem, Int.reduceToNat, Nat.reduceMul, Nat.reduceAdd, Nat.reduceSub, ↓EU_region, ↓EU_draw, g1, g20, d1]
      exact ⟨_, h2, l2, rfl, by simp (maxSteps := 1000000) (disch := first | decide | omega | (simp only [go_sem]; first | done | omega)) only [go_sem, Int.reduceToNat, Nat.reduceMul, Nat.reduceAdd, Nat.reduceSub, ↓EU_region, ↓EU_draw, g0], by simp (maxSteps := 1000000) (disch := first | decide | omega | (simp only [go_sem]; first | done | omega)) only [go_sem, Int.reduceToNat, Nat.reduceMul, Nat.reduceAdd, Nat.reduceSub, ↓EU_region, ↓EU_draw, g3], by simp (maxSteps := 1000000) (disch := first | decide | omega | (simp only [go_sem]; first | done | omega)) only [go_sem, Int.reduceToNat, Nat.reduceMul, Nat.reduceAdd, Nat.reduceSub, ↓EU_region, ↓EU_draw, g4], by simp (maxSteps := 1000000) (disch := first | decide | omega | (simp only [go_sem]; first | done | omega)) only [go_sem, Int.reduceToNat, Nat.reduceMul, Nat.reduceAdd, Nat.reduceSub, ↓EU_region, ↓EU_draw, g18], by simp (maxSteps := 1000000) (disch := first | decide | omega | (simp only [go_sem]; first | done | omega)) only [go_sem, Int.reduceToNat, Nat.reduceMul, Nat.reduceAdd, Nat.reduceSub, ↓EU_region, ↓EU_draw, g24], q2, RP.refl _ _ _, s2⟩
  clear g0 g1 g3 g4 g18 g20 g24
  rintro _ ⟨tm, h3, l3, rfl, g0, g3, g4, g18, g24, q3, r3, so3⟩
  have ll3 := r3.len
  have hok3 : ∀ x ∈ l3, ok x := fun x hx => hok2 x (r3.pm.mem_iff.1 hx)
  have out3 : ∀ k, M ≤ k → l3[k]? = l2[k]? := fun k hk => r3.out k (.inr hk)
  have s3b : SrtOn F l3 M E := s3.same fun k h1 h2 => out3 k h1
  have s4b : SrtOn F l3 E b := s4.same fun k h1 h2 => out3 k (by omega)
  have as2b : AscX l3 M E b := fun i j x y h1 h2 h3 h4 hx hy => as2 i j x y h1 h2 h3 h4 (by rw [← out3 i h1]; exact hx) (by rw [← out3 j (by omega)]; exact hy)
  have hcr3 : AllLt F l3 a M M b := hcr.mem r3.ins fun k h1 h2 => ⟨k, h1, h2, out3 k h1⟩
  have fin : ∀ l4, RP M b l3 l4 → SrtOn F l4 M b → RP a b l l4 ∧ SrtOn F l4 a b := fun l4 r4 so4 =>
    ⟨(rp2.trans (r3.mono (Nat.le_refl _) (by omega))).trans (r4.mono (by omega) (Nat.le_refl _)), halves (so3.same fun k h1 h2 => r4.out k (.inl h2)) so4 (hcr3.mem (fun k h1 h2 => ⟨k, h1, h2, r4.out k (.inl h2)⟩) r4.ins)⟩
  by_cases k1 : M < E
  · have d1 : decide ((M : Int) < (E : Int)) = true := decide_eq_true (by omega)
    by_cases k2 : E < b
    · have d2 : decide ((E : Int) < (b : Int)) = true := decide_eq_true (by omega)
      simp (maxSteps := 1000000) (disch := first | decide | omega | (simp only [go_sem]; first | done | omega)) only [go_sem, Int.reduceToNat, Nat.reduceMul, Nat.reduceAdd, Nat.reduceSub, ↓EU_region, ↓EU_draw, g0, g3, g4, g18, g24, d1, d2]
      repeat refine WPo_ob ?_
      refine (ih (b - M) (by omega) M E b h3 l3 rfl q3 hok3 k1 k2 (by omega) (by omega) s3b s4b as2b).mono ?_
      rintro ⟨v, h4⟩ ⟨l4, q4, r4, s4'⟩
      simp (maxSteps := 1000000) (disch := first | decide | omega | (simp only [go_sem]; first | done | omega)) only [go_sem, Int.reduceToNat, Nat.reduceMul, Nat.reduceAdd, Nat.reduceSub, ↓EU_region, ↓EU_draw]
      exact ⟨l4, q4, fin l4 r4 s4'⟩
    · have d2 : decide ((E : Int) < (b : Int)) = false := decide_eq_false (by omega)
      obtain rfl : E = b := by omega
      simp (maxSteps := 1000000) (disch := first | decide | omega | (simp only [go_sem]; first | done | omega)) only [go_sem, Int.reduceToNat, Nat.reduceMul, Nat.reduceAdd, Nat.reduceSub, ↓EU_region, ↓EU_draw, g3, g18, g24, d1, d2]
      exact ⟨l3, q3, fin l3 (RP.refl _ _ _) s3b⟩
  · have d1 : decide ((M : Int) < (E : Int)) = false := decide_eq_false (by omega)
    obtain rfl : M = E := by omega
    simp (maxSteps := 1000000) (disch := first | decide | omega | (simp only [go_sem]; first | done | omega)) only [go_sem, Int.reduceToNat, Nat.reduceMul, Nat.reduceAdd, Nat.reduceSub, ↓EU_region, ↓EU_draw, g18, g24, d1]
    exact ⟨l3, q3, fin l3 (RP.refl _ _ _) s4b⟩
end Go.Proofs.Ytoomhlfogeglcaa.EV
