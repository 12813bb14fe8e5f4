/- Contract: queues: fix. No condition. -/
import Derived.Test.YtbbdhpjkibbnkaaOq2
namespace Go.Proofs.Ytbbdhpjkibbnkaa.EV
open Go Go.Proofs
set_option linter.unusedVariables false
set_option linter.unusedSimpArgs false
set_option maxRecDepth 100000
set_option pp.deepTerms false
set_option pp.deepTerms.threshold 20
/-- so many steps more -/
noncomputable def stN (st : Int) (n : Nat) (st' : Int) : Prop := 0 ≤ st → st < 4611686018427387904 → st' = st + (n : Int)
theorem stN.s {st st' : Int} {n : Nat} (h : stN st n st') (hn : n ≤ 100000) : stN st (n + 1) (wrapF .i64 (st' + 1)) := fun h0 h1 => by
  have := h h0 h1
  rw [wrap64 (by omega)]
  omega
theorem stN.z (st : Int) : stN st 0 st := fun _ _ => by omega
theorem Mod.tr {S : Nat → Prop} {a b c : Heap} (h : Mod S a b) (k : Mod S b c) : Mod S a c := h.trans k
set_option maxHeartbeats 1000000 in
theorem fix_ev {h : Heap} {b : Nat} {lv : Value} {mb : Nat} {most st : Int} {l : List QI} (q : QR h b lv mb most st l) {i : Nat} (hi : i < l.length) (hl : l.length < 900000) :
    WPo (EF Try.prog O0 34 [ptr b 0, .int .i64 (i : Int)] h) fun r => ∃ l' st' n, QR r.2 b lv mb most st' l' ∧ Mod (QS b lv mb) h r.2 ∧ l'.Perm l ∧ (HX l i → HP l') ∧ stN st n st' ∧ n ≤ bl (i + 1) + 2 * bl l.length := by
  rw [EF_body (O := O0) (by kernel_rfl) Try.func34 rfl (rs := []) rfl (bad := []) (by kernel_rfl) _ _ (m := 63) rfl]
  have hb20 := bl_lt 20 (i + 1) (by omega)
  have hb20' := bl_lt 20 l.length (by omega)
  simp (maxSteps := 1000000) (disch := first | decide | omega | (simp only [go_sem]; first | done | omega)) only [go_sem, Int.reduceToNat, Nat.reduceMul, Nat.reduceAdd, Nat.reduceSub, ↓EU_region, ↓EU_draw]
  repeat refine WPo_ob ?_
  refine (LP_rule (fun m s => ∃ (j n : Nat) (tm : Fr) (h' : Heap) (l' : List QI) (st' : Int), s = ⟨tm, h', []⟩ ∧ m = j ∧ j < l.length ∧ l'.length = l.length ∧ Fr.get tm 0 = ptr b 0 ∧ Fr.get tm 1 = .int .i64 (j : Int) ∧ QR h' b lv mb most st' l' ∧ Mod (QS b lv mb) h h' ∧ l'.Perm l ∧ (HX l i → HX l' j) ∧ stN st n st' ∧ n + bl (j + 1) = bl (i + 1))
    (fun r => ∃ (j n : Nat) (tm : Fr) (h' : Heap) (l' : List QI) (st' : Int), r.2 = ⟨tm, h', []⟩ ∧ r.1 = .exit 0 ∧ j < l.length ∧ l'.length = l.length ∧ Fr.get tm 0 = ptr b 0 ∧ Fr.get tm 1 = .int .i64 (j : Int) ∧ QR h' b lv mb most st' l' ∧ Mod (QS b lv mb) h h' ∧ l'.Perm l ∧ (HX l i → HD l' j) ∧ stN st n st' ∧ n ≤ bl (i + 1)) ?_ i _ _ ?_ ?_).mono ?_
  · rintro m _ ⟨j, n, tm, h', l', st', rfl, hm, hj, hll, g0, g1, qr, md, pm, hx, hs, hn⟩
    have hbj := bl_pos (n := j + 1) (by omega)
    by_cases q0 : j = 0
    · subst q0
      have d0 : decide (((0 : Nat) : Int) > 0) = false := by decide
      simp (maxSteps := 1000000) (disch := first | decide | omega | (simp only [go_sem]; first | done | omega)) only [go_sem, Int.reduceToNat, Nat.reduceMul, Nat.reduceAdd, Nat.reduceSub, ↓EU_region, ↓EU_draw, g0, g1, d0]
      exact ⟨0, n, _, h', l', st', rfl, trivial, hj, hll, by simp (maxSteps := 1000000) (disch := first | decide | omega | (simp only [go_sem]; first | done | omega)) only [go_sem, Int.reduceToNat, Nat.reduceMul, Nat.reduceAdd, Nat.reduceSub, ↓EU_region, ↓EU_draw, g0], by simp (maxSteps := 1000000) (disch := first | decide | omega | (simp only [go_sem]; first | done | omega)) only [go_sem, Int.reduceToNat, Nat.reduceMul, Nat.reduceAdd, Nat.reduceSub, ↓EU_region, ↓EU_draw, g1], qr, md, pm, fun k => (hx k).down (.inl rfl), hs, by omega⟩
    · have d0 : decide ((j : Int) > 0) = true := decide_eq_true (by omega)
      have hw : wrapF .i64 ((j : Int) - 1) = ((j - 1 : Nat) : Int) := by rw [wrap64 (by omega)]; omega
      have hq : ∀ (P : Program) (t : TypeId) (y z : Operand), evBin P .quo t y z (.int .i64 ((j - 1 : Nat) : Int)) (.int .i64 2) = some (.int .i64 (((j - 1) / 2 : Nat) : Int)) := fun P t y z => by
        rw [bin_quo P t y z _ _ _ (by decide), wrap64 (by rw [show ((j - 1 : Nat) : Int).tdiv 2 = (((j - 1) / 2 : Nat) : Int) from rfl]; omega)]
        rfl
      obtain ⟨p, hp⟩ : ∃ p, p = (j - 1) / 2 := ⟨_, rfl⟩
      rw [← hp] at hq
      obtain ⟨x, hxx⟩ : ∃ x, l'[j]? = some x := ⟨_, List.getElem?_eq_getElem (by omega)⟩
      obtain ⟨y, hyy⟩ : ∃ y, l'[p]? = some y := ⟨_, List.getElem?_eq_getElem (by omega)⟩
      have hbl : bl (j + 1) = bl (p + 1) + 1 := by rw [bl_s (by omega)]; congr 2; omega
      simp (maxSteps := 1000000) (disch := first | decide | omega | (simp only [go_sem]; first | done | omega)) only [go_sem, Int.reduceToNat, Nat.reduceMul, Nat.reduceAdd, Nat.reduceSub, ↓EU_region, ↓EU_draw, g0, g1, d0, hw, hq]
      repeat refine WPo_ob ?_
      refine (less_ev qr hxx hyy (by omega)).mono ?_
      rintro ⟨v, h1⟩ ⟨e1, q1, m1⟩
      simp only at e1 q1 m1
      subst e1
      have md1 : Mod (QS b lv mb) h h1 := md.trans (m1.mono fun i _ e => .inl e)
      by_cases hlt : ltQ x y
      · have dl : decide (ltQ x y) = true := decide_eq_true hlt
        simp (maxSteps := 1000000) (disch := first | decide | omega | (simp only [go_sem]; first | done | omega)) only [go_sem, Int.reduceToNat, Nat.reduceMul, Nat.reduceAdd, Nat.reduceSub, ↓EU_region, ↓EU_draw, g0, g1, hw, hq, dl]
        repeat refine WPo_ob ?_
        refine (swap_ev q1 hxx hyy (by omega)).mono ?_
        rintro ⟨v2, h2⟩ ⟨q2, m2, n2⟩
        simp only at q2 m2 n2
        simp (maxSteps := 1000000) (disch := first | decide | omega | (simp only [go_sem]; first | done | omega)) only [go_sem, Int.reduceToNat, Nat.reduceMul, Nat.reduceAdd, Nat.reduceSub, ↓EU_region, ↓EU_draw, g0, g1, hw, hq]
        exact ⟨p, by omega, p, n + 1, _, h2, _, _, rfl, rfl, by omega, by rw [swapL_len]; exact hll, by simp (maxSteps := 1000000) (disch := first | decide | omega | (simp only [go_sem]; first | done | omega)) only [go_sem, Int.reduceToNat, Nat.reduceMul, Nat.reduceAdd, Nat.reduceSub, ↓EU_region, ↓EU_draw, g0], by simp (maxSteps := 1000000) (disch := first | decide | omega | (simp only [go_sem]; first | done | omega)) only [go_sem, Int.reduceToNat, Nat.reduceMul, Nat.reduceAdd, Nat.reduceSub, ↓EU_region, ↓EU_draw], q2, md1.trans m2, (swapL_perm hxx hyy).trans pm, fun k => by
          have := (hx k).up (by omega) hxx (by rw [← hp]; exact hyy) hlt
          rw [← hp] at this
          exact this, hs.s (by omega), by omega⟩
      · have dl : decide (ltQ x y) = false := decide_eq_false hlt
        simp (maxSteps := 1000000) (disch := first | decide | omega | (simp only [go_sem]; first | done | omega)) only [go_sem, Int.reduceToNat, Nat.reduceMul, Nat.reduceAdd, Nat.reduceSub, ↓EU_region, ↓EU_draw, g0, g1, dl]
        exact ⟨j, n + 1, _, h1, l', _, rfl, trivial, hj, hll, by simp (maxSteps := 1000000) (disch := first | decide | omega | (simp only [go_sem]; first | done | omega)) only [go_sem, Int.reduceToNat, Nat.reduceMul, Nat.reduceAdd, Nat.reduceSub, ↓EU_region, ↓EU_draw, g0], by simp (maxSteps := 1000000) (disch := first | decide | omega | (simp only [go_sem]; first | done | omega)) only [go_sem, Int.reduceToNat, Nat.reduceMul, Nat.reduceAdd, Nat.reduceSub, ↓EU_region, ↓EU_draw, g1], q1, md1, pm, fun k => (hx k).down (.inr fun a c ha hc => by
          rw [hxx] at ha
          rw [← hp, hyy] at hc
          cases ha; cases hc
          exact hlt), hs.s (by omega), by omega⟩
  · exact ⟨i, 0, _, h, l, st, rfl, rfl, hi, rfl, by simp (maxSteps := 1000000) (disch := first | decide | omega | (simp only [go_sem]; first | done | omega)) only [go_sem, Int.reduceToNat, Nat.reduceMul, Nat.reduceAdd, Nat.reduceSub, ↓EU_region, ↓EU_draw], by simp (maxSteps := 1000000) (disch := first | decide | omega | (simp only [go_sem]; first | done | omega)) only [go_sem, Int.reduceToNat, Nat.reduceMul, Nat.reduceAdd, Nat.reduceSub, ↓EU_region, ↓EU_draw], q, Mod.refl _ _, List.Perm.refl _, fun k => k, stN.z st, by omega⟩
  · omega
  · rintro ⟨_, _⟩ ⟨j, n, tm, h1, l1, st1, rfl, rfl, hj, hll, g0, g1, qr, md, pm, hx, hs, hn⟩
    simp (maxSteps := 1000000) (disch := first | decide | omega | (simp only [go_sem]; first | done | omega)) only [go_sem, Int.reduceToNat, Nat.reduceMul, Nat.reduceAdd, Nat.reduceSub, ↓EU_region, ↓EU_draw]
    repeat refine WPo_ob ?_
    refine (LP_rule (fun m s => ∃ (j d n : Nat) (tm : Fr) (h' : Heap) (l' : List QI) (st' : Int), s = ⟨tm, h', []⟩ ∧ m = l.length - j ∧ j < l.length ∧ l'.length = l.length ∧ Fr.get tm 0 = ptr b 0 ∧ Fr.get tm 1 = .int .i64 (j : Int) ∧ QR h' b lv mb most st' l' ∧ Mod (QS b lv mb) h h' ∧ l'.Perm l ∧ (HX l i → HD l' j) ∧ stN st n st' ∧ n ≤ bl (i + 1) + 2 * d ∧ 2 ^ d ≤ j + 1)
      (fun r => ∃ (n : Nat) (tm : Fr) (h' : Heap) (l' : List QI) (st' : Int), r.2 = ⟨tm, h', []⟩ ∧ (r.1 = .exit 2 ∨ r.1 = .ret) ∧ QR h' b lv mb most st' l' ∧ Mod (QS b lv mb) h h' ∧ l'.Perm l ∧ (HX l i → HP l') ∧ stN st n st' ∧ n ≤ bl (i + 1) + 2 * bl l.length) ?_ (l.length - j) _ _ ?_ ?_).mono ?_
    · rintro m _ ⟨j, d, n, tm, h', l', st', rfl, hm, hj, hll, g0, g1, qr, md, pm, hx, hs, hn, hd⟩
      have hbd : d < bl l.length := bl_ge d l.length (by omega)
      obtain ⟨x, hxx⟩ : ∃ x, l'[j]? = some x := ⟨_, List.getElem?_eq_getElem (by omega)⟩
      obtain ⟨K1, hK1⟩ : ∃ K1, K1 = 2 * j + 1 := ⟨_, rfl⟩
      obtain ⟨K2, hK2⟩ : ∃ K2, K2 = K1 + 1 := ⟨_, rfl⟩
      have hw2 : wrapF .i64 (2 * (j : Int)) = ((2 * j : Nat) : Int) := by rw [wrap64 (by omega)]; omega
      have hw3 : wrapF .i64 (((2 * j : Nat) : Int) + 1) = (K1 : Int) := by rw [wrap64 (by omega)]; omega
      have hw4 : wrapF .i64 ((K1 : Int) + 1) = (K2 : Int) := by rw [wrap64 (by omega)]; omega
      have cb := qr.cb
      obtain ⟨B, o, c, hlv, _, _⟩ := qr.at hxx
      rw [hll] at hlv
      have hlv' := hlv
      subst hlv'
      by_cases c1 : K1 < l.length
      · have d1 : decide ((K1 : Int) < (l.length : Int)) = true := decide_eq_true (by omega)
        obtain ⟨y, hyy⟩ : ∃ y, l'[K1]? = some y := ⟨_, List.getElem?_eq_getElem (by omega)⟩
        by_cases c2 : K2 < l.length
        · have d2 : decide ((K2 : Int) < (l.length : Int)) = true := decide_eq_true (by omega)
          obtain ⟨w, hww⟩ : ∃ w, l'[K2]? = some w := ⟨_, List.getElem?_eq_getElem (by omega)⟩
          simp (maxSteps := 1000000) (disch := first | decide | omega | (simp only [go_sem]; first | done | omega)) only [go_sem, Int.reduceToNat, Nat.reduceMul, Nat.reduceAdd, Nat.reduceSub, ↓EU_region, ↓EU_draw, g0, g1, cb, hw2, hw3, hw4, d1, d2]
          repeat refine WPo_ob ?_
          refine (less_ev qr hww hyy (by omega)).mono ?_
          rintro ⟨v, h2⟩ ⟨e2, q2, m2⟩
          simp only at e2 q2 m2
          subst e2
          have md2 : Mod (QS b (.slice (some ⟨B, o, none⟩) l.length c) mb) h h2 := md.trans (m2.mono fun i _ e => .inl e)
          have hs2 := hs.s (by omega)
          by_cases hlt : ltQ w y
          · have dl : decide (ltQ w y) = true := decide_eq_true hlt
            have hsm : ∀ j' z', 0 < j' → (j' - 1) / 2 = j → l'[j']? = some z' → ¬ ltQ z' w := fun j' z' h0 hj' hz' => by
              have : j' = K1 ∨ j' = K2 := by omega
              rcases this with rfl | rfl
              · rw [hyy] at hz'; cases hz'; exact ltQ_asymm hlt
              · rw [hww] at hz'; cases hz'; exact ltQ_irrefl _
            simp (maxSteps := 1000000) (disch := first | decide | omega | (simp only [go_sem]; first | done | omega)) only [go_sem, Int.reduceToNat, Nat.reduceMul, Nat.reduceAdd, Nat.reduceSub, ↓EU_region, ↓EU_draw, g0, g1, dl, hw4]
            repeat refine WPo_ob ?_
            refine (less_ev q2 hww hxx (by omega)).mono ?_
            rintro ⟨v3, h3⟩ ⟨e3, q3, m3⟩
            simp only at e3 q3 m3
            subst e3
            have md3 : Mod (QS b (.slice (some ⟨B, o, none⟩) l.length c) mb) h h3 := (md2).trans (m3.mono fun i _ e => .inl e)
            have hs3 := (hs2).s (by omega)
            by_cases hlt3 : ltQ w x
            · have dl3 : decide (ltQ w x) = true := decide_eq_true hlt3
              simp (maxSteps := 1000000) (disch := first | decide | omega | (simp only [go_sem]; first | done | omega)) only [go_sem, Int.reduceToNat, Nat.reduceMul, Nat.reduceAdd, Nat.reduceSub, ↓EU_region, ↓EU_draw, g0, g1, dl3]
              repeat refine WPo_ob ?_
              refine (swap_ev q3 hxx hww (by omega)).mono ?_
              rintro ⟨v4, h4⟩ ⟨q4, m4, n4⟩
              simp only at q4 m4 n4
              simp (maxSteps := 1000000) (disch := first | decide | omega | (simp only [go_sem]; first | done | omega)) only [go_sem, Int.reduceToNat, Nat.reduceMul, Nat.reduceAdd, Nat.reduceSub, ↓EU_region, ↓EU_draw, g0, g1]
              exact ⟨l.length - K2, by omega, K2, d + 1, n + 1 + 1, _, h4, _, _, rfl, rfl, by omega, by rw [swapL_len]; exact hll, by simp (maxSteps := 1000000) (disch := first | decide | omega | (simp only [go_sem]; first | done | omega)) only [go_sem, Int.reduceToNat, Nat.reduceMul, Nat.reduceAdd, Nat.reduceSub, ↓EU_region, ↓EU_draw, g0], by simp (maxSteps := 1000000) (disch := first | decide | omega | (simp only [go_sem]; first | done | omega)) only [go_sem, Int.reduceToNat, Nat.reduceMul, Nat.reduceAdd, Nat.reduceSub, ↓EU_region, ↓EU_draw], q4, md3.trans m4, (swapL_perm hxx hww).trans pm, fun k => (hx k).step (by omega) (by omega) hxx hww hlt3 hsm, hs3, by omega, by rw [Nat.pow_succ]; omega⟩
            · have dl3 : decide (ltQ w x) = false := decide_eq_false hlt3
              simp (maxSteps := 1000000) (disch := first | decide | omega | (simp only [go_sem]; first | done | omega)) only [go_sem, Int.reduceToNat, Nat.reduceMul, Nat.reduceAdd, Nat.reduceSub, ↓EU_region, ↓EU_draw, g0, g1, dl3]
              exact ⟨n + 1 + 1, _, h3, l', _, rfl, .inr trivial, q3, md3, pm, fun k => (hx k).stop (fun c' a e h0 hc' ha he => by
                rw [hxx] at he
                cases he
                exact leQ_trans hlt3 (hsm c' a h0 hc' ha)), hs3, by omega⟩
          · have dl : decide (ltQ w y) = false := decide_eq_false hlt
            have hsm : ∀ j' z', 0 < j' → (j' - 1) / 2 = j → l'[j']? = some z' → ¬ ltQ z' y := fun j' z' h0 hj' hz' => by
              have : j' = K1 ∨ j' = K2 := by omega
              rcases this with rfl | rfl
              · rw [hyy] at hz'; cases hz'; exact ltQ_irrefl _
              · rw [hww] at hz'; cases hz'; exact hlt
            simp (maxSteps := 1000000) (disch := first | decide | omega | (simp only [go_sem]; first | done | omega)) only [go_sem, Int.reduceToNat, Nat.reduceMul, Nat.reduceAdd, Nat.reduceSub, ↓EU_region, ↓EU_draw, g0, g1, dl]
            repeat refine WPo_ob ?_
            refine (less_ev q2 hyy hxx (by omega)).mono ?_
            rintro ⟨v3, h3⟩ ⟨e3, q3, m3⟩
            simp only at e3 q3 m3
            subst e3
            have md3 : Mod (QS b (.slice (some ⟨B, o, none⟩) l.length c) mb) h h3 := (md2).trans (m3.mono fun i _ e => .inl e)
            have hs3 := (hs2).s (by omega)
            by_cases hlt3 : ltQ y x
            · have dl3 : decide (ltQ y x) = true := decide_eq_true hlt3
              simp (maxSteps := 1000000) (disch := first | decide | omega | (simp only [go_sem]; first | done | omega)) only [go_sem, Int.reduceToNat, Nat.reduceMul, Nat.reduceAdd, Nat.reduceSub, ↓EU_region, ↓EU_draw, g0, g1, dl3]
              repeat refine WPo_ob ?_
              refine (swap_ev q3 hxx hyy (by omega)).mono ?_
              rintro ⟨v4, h4⟩ ⟨q4, m4, n4⟩
              simp only at q4 m4 n4
              simp (maxSteps := 1000000) (disch := first | decide | omega | (simp only [go_sem]; first | done | omega)) only [go_sem, Int.reduceToNat, Nat.reduceMul, Nat.reduceAdd, Nat.reduceSub, ↓EU_region, ↓EU_draw, g0, g1]
              exact ⟨l.length - K1, by omega, K1, d + 1, n + 1 + 1, _, h4, _, _, rfl, rfl, by omega, by rw [swapL_len]; exact hll, by simp (maxSteps := 1000000) (disch := first | decide | omega | (simp only [go_sem]; first | done | omega)) only [go_sem, Int.reduceToNat, Nat.reduceMul, Nat.reduceAdd, Nat.reduceSub, ↓EU_region, ↓EU_draw, g0], by simp (maxSteps := 1000000) (disch := first | decide | omega | (simp only [go_sem]; first | done | omega)) only [go_sem, Int.reduceToNat, Nat.reduceMul, Nat.reduceAdd, Nat.reduceSub, ↓EU_region, ↓EU_draw], q4, md3.trans m4, (swapL_perm hxx hyy).trans pm, fun k => (hx k).step (by omega) (by omega) hxx hyy hlt3 hsm, hs3, by omega, by rw [Nat.pow_succ]; omega⟩
            · have dl3 : decide (ltQ y x) = false := decide_eq_false hlt3
              simp (maxSteps := 1000000) (disch := first | decide | omega | (simp only [go_sem]; first | done | omega)) only [go_sem, Int.reduceToNat, Nat.reduceMul, Nat.reduceAdd, Nat.reduceSub, ↓EU_region, ↓EU_draw, g0, g1, dl3]
              exact ⟨n + 1 + 1, _, h3, l', _, rfl, .inr trivial, q3, md3, pm, fun k => (hx k).stop (fun c' a e h0 hc' ha he => by
                rw [hxx] at he
                cases he
                exact leQ_trans hlt3 (hsm c' a h0 hc' ha)), hs3, by omega⟩
        · have d2 : decide ((K2 : Int) < (l.length : Int)) = false := decide_eq_false (by omega)
          have hsm : ∀ j' z', 0 < j' → (j' - 1) / 2 = j → l'[j']? = some z' → ¬ ltQ z' y := fun j' z' h0 hj' hz' => by
            have hlt' := (List.getElem?_eq_some_iff.1 hz').1
            have : j' = K1 := by omega
            subst this
            rw [hyy] at hz'; cases hz'; exact ltQ_irrefl _
          simp (maxSteps := 1000000) (disch := first | decide | omega | (simp only [go_sem]; first | done | omega)) only [go_sem, Int.reduceToNat, Nat.reduceMul, Nat.reduceAdd, Nat.reduceSub, ↓EU_region, ↓EU_draw, g0, g1, cb, hw2, hw3, hw4, d1, d2]
          repeat refine WPo_ob ?_
          refine (less_ev qr hyy hxx (by omega)).mono ?_
          rintro ⟨v3, h3⟩ ⟨e3, q3, m3⟩
          simp only at e3 q3 m3
          subst e3
          have md3 : Mod (QS b (.slice (some ⟨B, o, none⟩) l.length c) mb) h h3 := (md).trans (m3.mono fun i _ e => .inl e)
          have hs3 := (hs).s (by omega)
          by_cases hlt3 : ltQ y x
          · have dl3 : decide (ltQ y x) = true := decide_eq_true hlt3
            simp (maxSteps := 1000000) (disch := first | decide | omega | (simp only [go_sem]; first | done | omega)) only [go_sem, Int.reduceToNat, Nat.reduceMul, Nat.reduceAdd, Nat.reduceSub, ↓EU_region, ↓EU_draw, g0, g1, dl3]
            repeat refine WPo_ob ?_
            refine (swap_ev q3 hxx hyy (by omega)).mono ?_
            rintro ⟨v4, h4⟩ ⟨q4, m4, n4⟩
            simp only at q4 m4 n4
            simp (maxSteps := 1000000) (disch := first | decide | omega | (simp only [go_sem]; first | done | omega)) only [go_sem, Int.reduceToNat, Nat.reduceMul, Nat.reduceAdd, Nat.reduceSub, ↓EU_region, ↓EU_draw, g0, g1]
            exact ⟨l.length - K1, by omega, K1, d + 1, n + 1, _, h4, _, _, rfl, rfl, by omega, by rw [swapL_len]; exact hll, by simp (maxSteps := 1000000) (disch := first | decide | omega | (simp only [go_sem]; first | done | omega)) only [go_sem, Int.reduceToNat, Nat.reduceMul, Nat.reduceAdd, Nat.reduceSub, ↓EU_region, ↓EU_draw, g0], by simp (maxSteps := 1000000) (disch := first | decide | omega | (simp only [go_sem]; first | done | omega)) only [go_sem, Int.reduceToNat, Nat.reduceMul, Nat.reduceAdd, Nat.reduceSub, ↓EU_region, ↓EU_draw], q4, md3.trans m4, (swapL_perm hxx hyy).trans pm, fun k => (hx k).step (by omega) (by omega) hxx hyy hlt3 hsm, hs3, by omega, by rw [Nat.pow_succ]; omega⟩
          · have dl3 : decide (ltQ y x) = false := decide_eq_false hlt3
            simp (maxSteps := 1000000) (disch := first | decide | omega | (simp only [go_sem]; first | done | omega)) only [go_sem, Int.reduceToNat, Nat.reduceMul, Nat.reduceAdd, Nat.reduceSub, ↓EU_region, ↓EU_draw, g0, g1, dl3]
            exact ⟨n + 1, _, h3, l', _, rfl, .inr trivial, q3, md3, pm, fun k => (hx k).stop (fun c' a e h0 hc' ha he => by
              rw [hxx] at he
              cases he
              exact leQ_trans hlt3 (hsm c' a h0 hc' ha)), hs3, by omega⟩
      · have d1 : decide ((K1 : Int) < (l.length : Int)) = false := decide_eq_false (by omega)
        simp (maxSteps := 1000000) (disch := first | decide | omega | (simp only [go_sem]; first | done | omega)) only [go_sem, Int.reduceToNat, Nat.reduceMul, Nat.reduceAdd, Nat.reduceSub, ↓EU_region, ↓EU_draw, g0, g1, cb, hw2, hw3, d1]
        exact ⟨n, _, h', l', st', rfl, .inl trivial, qr, md, pm, fun k => (hx k).stop (fun c' a e h0 hc' ha he => by
          have := (List.getElem?_eq_some_iff.1 ha).1
          omega), hs, by omega⟩
    · exact ⟨j, 0, n, _, h1, l1, st1, rfl, rfl, hj, hll, by simp (maxSteps := 1000000) (disch := first | decide | omega | (simp only [go_sem]; first | done | omega)) only [go_sem, Int.reduceToNat, Nat.reduceMul, Nat.reduceAdd, Nat.reduceSub, ↓EU_region, ↓EU_draw, g0], by simp (maxSteps := 1000000) (disch := first | decide | omega | (simp only [go_sem]; first | done | omega)) only [go_sem, Int.reduceToNat, Nat.reduceMul, Nat.reduceAdd, Nat.reduceSub, ↓EU_region, ↓EU_draw, g1], qr, md, pm, hx, hs, by omega, by simp⟩
    · omega
    · rintro ⟨_, _⟩ ⟨n2, tm2, h2, l2, st2, rfl, e, qr2, md2, pm2, hx2, hs2, hn2⟩
      rcases e with rfl | rfl
      · simp (maxSteps := 1000000) (disch := first | decide | omega | (simp only [go_sem]; first | done | omega)) only [go_sem, Int.reduceToNat, Nat.reduceMul, Nat.reduceAdd, Nat.reduceSub, ↓EU_region, ↓EU_draw]
        exact ⟨l2, st2, n2, qr2, md2, pm2, hx2, hs2, hn2⟩
      · simp (maxSteps := 1000000) (disch := first | decide | omega | (simp only [go_sem]; first | done | omega)) only [go_sem, Int.reduceToNat, Nat.reduceMul, Nat.reduceAdd, Nat.reduceSub, ↓EU_region, ↓EU_draw]
        exact ⟨l2, st2, n2, qr2, md2, pm2, hx2, hs2, hn2⟩
end Go.Proofs.Ytbbdhpjkibbnkaa.EV
