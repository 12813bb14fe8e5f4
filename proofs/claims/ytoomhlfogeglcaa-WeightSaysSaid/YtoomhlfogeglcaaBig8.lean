/- The reference's numbers of any size: Div, the walk. No condition. -/
import Derived.Test.YtoomhlfogeglcaaBig7
namespace Go.Proofs.Ytoomhlfogeglcaa.EV
open Go Go.Proofs
set_option linter.unusedVariables false
set_option linter.unusedSimpArgs false
set_option maxRecDepth 100000
set_option pp.deepTerms false
set_option pp.deepTerms.threshold 20
theorem SL.veq {α : Type} {e : α → List Value} {es : Nat} {h : Heap} {v : Value} {l : List α} (s : SL e es h v l) : veq v v = true := by
  cases s with
  | nil => exact veq_slN _ _
  | mk b o c l cs hb hc hl hx hcap hq => exact veq_slS _ _ _ _
theorem slV_of {h : Heap} {v : Value} {l : List Int} (s : SL (intE .i64) 1 h v l) : ∃ x : SlT, v = slV x := by
  obtain ⟨a, c, rfl⟩ := s.val
  exact ⟨(a, l.length, c), rfl⟩
theorem slV_cells (s : SlT) : cellsL (slV s) = [slV s] := rfl
theorem slV_one (s : SlT) : [slV s].length.beq 1 = true := rfl
theorem slV_put (x : Value) (s : SlT) : splice [x] 0 [slV s] = [slV s] := rfl
set_option maxHeartbeats 16000000 in
theorem rdiv_ev (n m : Bool) (a b : List Int) (s t : Value) (h : Heap) (hs : SL (intE .i64) 1 h s a) (ht : SL (intE .i64) 1 h t b) (ha : dig a) (hb : dig b) (hla : a.length ≤ 15) (hlb : b.length ≤ 8) (hB : 1 ≤ val b) :
    WPo (EF Try.prog O0 36 [bigV n s, bigV m t] h) fun q => ∃ k l v, q.1 = bigV k v ∧ SL (intE .i64) 1 q.2 v l ∧ dig l ∧ sv k l = flR (n != m) (val a) (val b) ∧ l.length ≤ 20 ∧ Ext h q.2 := by
  unfold bigV at *
  obtain ⟨sa, sc, rfl⟩ := hs.val
  obtain ⟨ta, tc, rfl⟩ := ht.val
  rw [EF_body (O := O0) (by kernel_rfl) Try.func36 rfl (rs := [.cell 4 53]) rfl (bad := [20]) (by kernel_rfl) _ _ (m := 81) rfl]
  obtain ⟨h0, hh0⟩ : ∃ z, ((h.push (.cells [.bool n, .slice sa a.length sc] 0)).push (.cells [.bool m, .slice ta b.length tc] 0)).push (.cells [.bool false, .slice none 0 1] 0) = z := ⟨_, rfl⟩
  have x0 : Ext h h0 := by rw [← hh0]; repeat (first | exact Ext.refl _ | assumption | refine Ext.push ?_ _ | refine Ext.set ?_ _ _ (by first | omega | (simp only [next_push, next_set]; omega)))
  have c2 : h0.get h.next = .cells [.bool n, .slice sa a.length sc] 0 := by rw [← hh0]; simp (maxSteps := 1000000) (disch := first | decide | omega | (simp only [go_sem]; first | done | omega)) only [go_sem, Int.reduceToNat, Nat.reduceMul, Nat.reduceAdd, Nat.reduceSub, ↓EU_region, ↓EU_draw]
  have c3 : h0.get (h.next + 1) = .cells [.bool m, .slice ta b.length tc] 0 := by rw [← hh0]; simp (maxSteps := 1000000) (disch := first | decide | omega | (simp only [go_sem]; first | done | omega)) only [go_sem, Int.reduceToNat, Nat.reduceMul, Nat.reduceAdd, Nat.reduceSub, ↓EU_region, ↓EU_draw]
  have c4 : h0.get (h.next + 2) = .cells [.bool false, .slice none 0 1] 0 := by rw [← hh0]; simp (maxSteps := 1000000) (disch := first | decide | omega | (simp only [go_sem]; first | done | omega)) only [go_sem, Int.reduceToNat, Nat.reduceMul, Nat.reduceAdd, Nat.reduceSub, ↓EU_region, ↓EU_draw]
  have hn0 : h0.next = h.next + 3 := by rw [← hh0]; simp (maxSteps := 1000000) (disch := first | decide | omega | (simp only [go_sem]; first | done | omega)) only [go_sem, Int.reduceToNat, Nat.reduceMul, Nat.reduceAdd, Nat.reduceSub, ↓EU_region, ↓EU_draw]
  have hAr := val_range ha
  have hBr := val_range hb
  have hA15 : val a < pw 15 := Int.lt_of_lt_of_le hAr.2 (pw_le hla)
  have hB8 : val b < pw 8 := Int.lt_of_lt_of_le hBr.2 (pw_le hlb)
  simp (maxSteps := 1000000) (disch := first | decide | omega | (simp only [go_sem]; first | done | omega)) only [go_sem, Int.reduceToNat, Nat.reduceMul, Nat.reduceAdd, Nat.reduceSub, ↓EU_region, ↓EU_draw]
  rw [hh0]
  have x1 : Ext h0 (h0.push (.cells [.int .i64 1] 1)) := (Ext.refl h0).push _
  have o1 := OW.lit (e := intE .i64) i64_len h0 [1]
  have hD : DJ h0 (val b) (h0.push (.cells [.int .i64 1] 1)) (.slice none 0 1) (.slice none 0 1) 0 [] [] (ta, b.length, tc) (some ⟨h0.next, 0, none⟩, 1, 3) b [1] := by
    refine ⟨rfl, rfl, OW.nil, OW.nil, Fresh.nil _ _ _, Fresh.nil _ _ _, fun i q => q.elim, ⟨(ht.ext x0).ext x1, hb, by omega, fun i _ => ⟨fun q => q.elim, fun q => q.elim⟩⟩, ⟨o1.sl, dig_one (by decide), by decide, fun i _ => ⟨fun q => q.elim, fun q => q.elim⟩⟩, by simp, by simp [val], .inl hlb, .inl (by decide), fun i s q => by simp at q, fun i s q => by simp at q, x1⟩
  rw [hn0] at hD
  generalize h0.push (.cells [.int .i64 1] 1) = h1 at *
  repeat refine WPo_ob ?_
  refine (LP_rule (fun m' st => ∃ (j : Nat) (tm : Fr) (h' : Heap) (V W : Value) (L M : List SlT) (dS oS : SlT) (d o : List Int), st = ⟨tm, h', []⟩ ∧ m' = 300 - j ∧ j ≤ 240 ∧ Fr.get tm 2 = ptr h.next 0 ∧ Fr.get tm 3 = ptr (h.next + 1) 0 ∧ Fr.get tm 4 = ptr (h.next + 1 + 1) 0 ∧ Fr.get tm 5 = .slice sa a.length sc ∧ Fr.get tm 6 = V ∧ Fr.get tm 7 = slV dS ∧ Fr.get tm 8 = slV oS ∧ Fr.get tm 9 = W ∧ DJ h0 (val b) h' V W j L M dS oS d o)
    (fun q => ∃ (j : Nat) (tm : Fr) (h' : Heap) (V W : Value) (L M : List SlT) (dS oS : SlT) (d o : List Int), q.2 = ⟨tm, h', []⟩ ∧ q.1 = .exit 0 ∧ j ≤ 240 ∧ Fr.get tm 2 = ptr h.next 0 ∧ Fr.get tm 3 = ptr (h.next + 1) 0 ∧ Fr.get tm 4 = ptr (h.next + 1 + 1) 0 ∧ Fr.get tm 5 = .slice sa a.length sc ∧ Fr.get tm 6 = V ∧ Fr.get tm 9 = W ∧ DJ h0 (val b) h' V W j L M dS oS d o ∧ val a < val b * 2 ^ j) ?_ 300 _ _ ?_ ?_).mono ?_
  · rintro m' _ ⟨j, tm, h', V, W, L, M, dS, oS, d, o, rfl, rfl, hj, g2, g3, g4, g5, g6, g7, g8, g9, D⟩
    have D' := D
    obtain ⟨l1, l2, w1, w2, f1, f2, dis, E1, E2, v1, v2, k1, k2, a1, a2, x'⟩ := D'
    have hcmp := cmpSize_ev d a (slV dS) (.slice sa a.length sc) h' E1.1 ((hs.ext x0).ext x') E1.2.1 ha (by have := E1.2.2.1; omega) (by omega)
    by_cases q : val d ≤ val a
    · have dq : decide (sgnC (val d) (val a) ≤ 0) = true := decide_eq_true (by unfold sgnC; split <;> (try split) <;> omega)
      have hj' : j < 240 := by
        apply two_inv
        rw [← pw15]
        have := Int.mul_le_mul_of_nonneg_right hB (Int.le_of_lt (two_pos j))
        omega
      have le1 := E1.2.2.1
      have le2 := E2.2.2.1
      simp (maxSteps := 1000000) (disch := first | decide | omega | (simp only [go_sem]; first | done | omega)) only [go_sem, Int.reduceToNat, Nat.reduceMul, Nat.reduceAdd, Nat.reduceSub, ↓EU_region, ↓EU_draw, g5, g6, g7, g8, g9, hcmp, dq, slV_cells, slV_one, slV_put]
      repeat refine WPo_ob ?_
      refine append_own (e := eS) (h0 := h0) (l := L) (l' := [dS]) fc_ap_64_64 eS_len (by decide) eS_scal (x'.push _) (w1.ext ((Ext.refl h').push _)) f1 (OW.lit eS_len h' [dS]).sl (by simp only [List.length_cons, List.length_nil]; omega) (by simp only [List.length_cons, List.length_nil]; omega) fun V' h2 o2 f2' x2 m2 s2 => ?_
      have w2' := (w2.ext ((Ext.refl h').push (.cells [slV dS] 1))).mod m2 (fun i hi q => dis i q hi)
      simp (maxSteps := 1000000) (disch := first | decide | omega | (simp only [go_sem]; first | done | omega)) only [go_sem, Int.reduceToNat, Nat.reduceMul, Nat.reduceAdd, Nat.reduceSub, ↓EU_region, ↓EU_draw, g6, g7, g8, g9, slV_cells, slV_one, slV_put]
      repeat refine WPo_ob ?_
      refine append_own (e := eS) (h0 := h0) (l := M) (l' := [oS]) fc_ap_64_64 eS_len (by decide) eS_scal (x2.push _) (w2'.ext ((Ext.refl h2).push _)) f2 (OW.lit eS_len h2 [oS]).sl (by simp only [List.length_cons, List.length_nil]; omega) (by simp only [List.length_cons, List.length_nil]; omega) fun W' h3 o3 f3' x3 m3 s3 => ?_
      have Ed := (((E1.ext ((Ext.refl h').push (.cells [slV dS] 1))).mod1 m2).ext ((Ext.refl h2).push (.cells [slV oS] 1))).mod2 m3
      have Eo := (((E2.ext ((Ext.refl h').push (.cells [slV dS] 1))).mod1 m2).ext ((Ext.refl h2).push (.cells [slV oS] 1))).mod2 m3
      simp (maxSteps := 1000000) (disch := first | decide | omega | (simp only [go_sem]; first | done | omega)) only [go_sem, Int.reduceToNat, Nat.reduceMul, Nat.reduceAdd, Nat.reduceSub, ↓EU_region, ↓EU_draw, g7, g8]
      repeat refine WPo_ob ?_
      refine (putA_ev d d (slV dS) (slV dS) h3 Ed.1 Ed.1 E1.2.1 E1.2.1 (by omega) (by omega)).mono ?_
      rintro ⟨v4, h4⟩ ⟨d', sd, fd, x4, dd, vd, ld⟩
      simp only at sd fd x4
      obtain ⟨dS', rfl⟩ := slV_of sd
      simp (maxSteps := 1000000) (disch := first | decide | omega | (simp only [go_sem]; first | done | omega)) only [go_sem, Int.reduceToNat, Nat.reduceMul, Nat.reduceAdd, Nat.reduceSub, ↓EU_region, ↓EU_draw, g8]
      repeat refine WPo_ob ?_
      refine (putA_ev o o (slV oS) (slV oS) h4 (Eo.1.ext x4) (Eo.1.ext x4) E2.2.1 E2.2.1 (by omega) (by omega)).mono ?_
      rintro ⟨v5, h5⟩ ⟨o', so, fo, x5, do', vo, lo⟩
      simp only at so fo x5
      obtain ⟨oS', rfl⟩ := slV_of so
      simp (maxSteps := 1000000) (disch := first | decide | omega | (simp only [go_sem]; first | done | omega)) only [go_sem, Int.reduceToNat, Nat.reduceMul, Nat.reduceAdd, Nat.reduceSub, ↓EU_region, ↓EU_draw, g2, g3, g4, g5]
      have D2 := D.step hB hA15 q o2 f2' m2 s2 o3 f3' m3 s3 x3 sd fd x4 dd vd ld so fo x5 do' vo lo
      exact ⟨300 - (j + 1), by omega, j + 1, _, h5, V', W', L ++ [dS], M ++ [oS], dS', oS', d', o', rfl, rfl, by omega, by simp (maxSteps := 1000000) (disch := first | decide | omega | (simp only [go_sem]; first | done | omega)) only [go_sem, Int.reduceToNat, Nat.reduceMul, Nat.reduceAdd, Nat.reduceSub, ↓EU_region, ↓EU_draw, g2], by simp (maxSteps := 1000000) (disch := first | decide | omega | (simp only [go_sem]; first | done | omega)) only [go_sem, Int.reduceToNat, Nat.reduceMul, Nat.reduceAdd, Nat.reduceSub, ↓EU_region, ↓EU_draw, g3], by simp (maxSteps := 1000000) (disch := first | decide | omega | (simp only [go_sem]; first | done | omega)) only [go_sem, Int.reduceToNat, Nat.reduceMul, Nat.reduceAdd, Nat.reduceSub, ↓EU_region, ↓EU_draw, g4], by simp (maxSteps := 1000000) (disch := first | decide | omega | (simp only [go_sem]; first | done | omega)) only [go_sem, Int.reduceToNat, Nat.reduceMul, Nat.reduceAdd, Nat.reduceSub, ↓EU_region, ↓EU_draw, g5], by simp (maxSteps := 1000000) (disch := first | decide | omega | (simp only [go_sem]; first | done | omega)) only [go_sem, Int.reduceToNat, Nat.reduceMul, Nat.reduceAdd, Nat.reduceSub, ↓EU_region, ↓EU_draw], by simp (maxSteps := 1000000) (disch := first | decide | omega | (simp only [go_sem]; first | done | omega)) only [go_sem, Int.reduceToNat, Nat.reduceMul, Nat.reduceAdd, Nat.reduceSub, ↓EU_region, ↓EU_draw], by simp (maxSteps := 1000000) (disch := first | decide | omega | (simp only [go_sem]; first | done | omega)) only [go_sem, Int.reduceToNat, Nat.reduceMul, Nat.reduceAdd, Nat.reduceSub, ↓EU_region, ↓EU_draw], by simp (maxSteps := 1000000) (disch := first | decide | omega | (simp only [go_sem]; first | done | omega)) only [go_sem, Int.reduceToNat, Nat.reduceMul, Nat.reduceAdd, Nat.reduceSub, ↓EU_region, ↓EU_draw], D2⟩
    · have dq : decide (sgnC (val d) (val a) ≤ 0) = false := decide_eq_false (by unfold sgnC; split <;> (try split) <;> omega)
      simp (maxSteps := 1000000) (disch := first | decide | omega | (simp only [go_sem]; first | done | omega)) only [go_sem, Int.reduceToNat, Nat.reduceMul, Nat.reduceAdd, Nat.reduceSub, ↓EU_region, ↓EU_draw, g5, g6, g7, g8, g9, hcmp, dq]
      exact ⟨j, _, h', V, W, L, M, dS, oS, d, o, rfl, trivial, hj, by simp (maxSteps := 1000000) (disch := first | decide | omega | (simp only [go_sem]; first | done | omega)) only [go_sem, Int.reduceToNat, Nat.reduceMul, Nat.reduceAdd, Nat.reduceSub, ↓EU_region, ↓EU_draw, g2], by simp (maxSteps := 1000000) (disch := first | decide | omega | (simp only [go_sem]; first | done | omega)) only [go_sem, Int.reduceToNat, Nat.reduceMul, Nat.reduceAdd, Nat.reduceSub, ↓EU_region, ↓EU_draw, g3], by simp (maxSteps := 1000000) (disch := first | decide | omega | (simp only [go_sem]; first | done | omega)) only [go_sem, Int.reduceToNat, Nat.reduceMul, Nat.reduceAdd, Nat.reduceSub, ↓EU_region, ↓EU_draw, g4], by simp (maxSteps := 1000000) (disch := first | decide | omega | (simp only [go_sem]; first | done | omega)) only [go_sem, Int.reduceToNat, Nat.reduceMul, Nat.reduceAdd, Nat.reduceSub, ↓EU_region, ↓EU_draw, g5], by simp (maxSteps := 1000000) (disch := first | decide | omega | (simp only [go_sem]; first | done | omega)) only [go_sem, Int.reduceToNat, Nat.reduceMul, Nat.reduceAdd, Nat.reduceSub, ↓EU_region, ↓EU_draw, g6], by simp (maxSteps := 1000000) (disch := first | decide | omega | (simp only [go_sem]; first | done | omega)) only [go_sem, Int.reduceToNat, Nat.reduceMul, Nat.reduceAdd, Nat.reduceSub, ↓EU_region, ↓EU_draw, g9], D, by omega⟩
  · exact ⟨0, _, h1, _, _, [], [], (ta, b.length, tc), (some ⟨h.next + 3, 0, none⟩, 1, 3), b, [1], rfl, rfl, by decide, by simp (maxSteps := 1000000) (disch := first | decide | omega | (simp only [go_sem]; first | done | omega)) only [go_sem, Int.reduceToNat, Nat.reduceMul, Nat.reduceAdd, Nat.reduceSub, ↓EU_region, ↓EU_draw], by simp (maxSteps := 1000000) (disch := first | decide | omega | (simp only [go_sem]; first | done | omega)) only [go_sem, Int.reduceToNat, Nat.reduceMul, Nat.reduceAdd, Nat.reduceSub, ↓EU_region, ↓EU_draw], by simp (maxSteps := 1000000) (disch := first | decide | omega | (simp only [go_sem]; first | done | omega)) only [go_sem, Int.reduceToNat, Nat.reduceMul, Nat.reduceAdd, Nat.reduceSub, ↓EU_region, ↓EU_draw], by simp (maxSteps := 1000000) (disch := first | decide | omega | (simp only [go_sem]; first | done | omega)) only [go_sem, Int.reduceToNat, Nat.reduceMul, Nat.reduceAdd, Nat.reduceSub, ↓EU_region, ↓EU_draw], by simp (maxSteps := 1000000) (disch := first | decide | omega | (simp only [go_sem]; first | done | omega)) only [go_sem, Int.reduceToNat, Nat.reduceMul, Nat.reduceAdd, Nat.reduceSub, ↓EU_region, ↓EU_draw], by simp (maxSteps := 1000000) (disch := first | decide | omega | (simp only [go_sem]; first | done | omega)) only [go_sem, Int.reduceToNat, Nat.reduceMul, Nat.reduceAdd, Nat.reduceSub, ↓EU_region, ↓EU_draw]; rfl, by simp (maxSteps := 1000000) (disch := first | decide | omega | (simp only [go_sem]; first | done | omega)) only [go_sem, Int.reduceToNat, Nat.reduceMul, Nat.reduceAdd, Nat.reduceSub, ↓EU_region, ↓EU_draw]; rfl, by simp (maxSteps := 1000000) (disch := first | decide | omega | (simp only [go_sem]; first | done | omega)) only [go_sem, Int.reduceToNat, Nat.reduceMul, Nat.reduceAdd, Nat.reduceSub, ↓EU_region, ↓EU_draw], hD⟩
  · decide
  · rintro ⟨_, _⟩ ⟨j, tm, h', V, W, L, M, dS, oS, d, o, rfl, rfl, hj, g2, g3, g4, g5, g6, g9, D, hlt⟩
    obtain ⟨l1, l2, w1, w2, f1, f2, dis, E1, E2, v1, v2, k1, k2, a1, a2, x'⟩ := D
    clear hD v1 v2 k1 k2 E1 E2
    have xE : Ext h' (h'.push (.cells [.int .i64 0] 1)) := (Ext.refl h').push _
    have oq : SL (intE .i64) 1 (h'.push (.cells [.int .i64 0] 1)) (.slice (some ⟨h'.next, 0, none⟩) 1 3) [0] := (OW.lit (e := intE .i64) i64_len h' [0]).sl
    have fq : Fresh h0.next (.slice (some ⟨h'.next, 0, none⟩) 1 3) := Fresh.mk _ _ _ x'.le
    have sV := (w1.ext xE).sl
    have sW := (w2.ext xE).sl
    have A1 : ∀ i s, L[i]? = some s → ∃ l, SL (intE .i64) 1 (h'.push (.cells [.int .i64 0] 1)) (slV s) l ∧ dig l ∧ l.length ≤ 16 ∧ val l = val b * 2 ^ i := fun i s q => by
      obtain ⟨l, e, r⟩ := a1 i s q
      exact ⟨l, e.1.ext xE, e.2.1, e.2.2.1, r⟩
    have A2 : ∀ i s, M[i]? = some s → ∃ l, SL (intE .i64) 1 (h'.push (.cells [.int .i64 0] 1)) (slV s) l ∧ dig l ∧ l.length ≤ 16 ∧ val l = 2 ^ i := fun i s q => by
      obtain ⟨l, e, r⟩ := a2 i s q
      exact ⟨l, e.1.ext xE, e.2.1, e.2.2.1, r⟩
    obtain ⟨va, vc, rfl⟩ := w1.val
    obtain ⟨wa, wc, rfl⟩ := w2.val
    have hwL : wrapF .i64 ((L.length : Int) - 1) = (j : Int) - 1 := by rw [l1, wrap64 (by omega)]
    have hwL2 : ((L.length : Int) - 1) = (j : Int) - 1 := by rw [l1]
    simp (maxSteps := 1000000) (disch := first | decide | omega | (simp only [go_sem]; first | done | omega)) only [go_sem, Int.reduceToNat, Nat.reduceMul, Nat.reduceAdd, Nat.reduceSub, ↓EU_region, ↓EU_draw, g6, hwL, hwL2]
    have yE : Ext h0 (h'.push (.cells [.int .i64 0] 1)) := x'.trans xE
    clear a1 a2 w1 w2 dis f1 f2
    generalize h'.push (.cells [.int .i64 0] 1) = hE at *
    repeat refine WPo_ob ?_
    refine (LP_rule (fun m' st => ∃ (i : Nat) (tm : Fr) (h2 : Heap) (S Q : List Int) (sS qS : Value), st = ⟨tm, h2, []⟩ ∧ m' = i ∧ i ≤ j ∧ Fr.get tm 2 = ptr h.next 0 ∧ Fr.get tm 3 = ptr (h.next + 1) 0 ∧ Fr.get tm 4 = ptr (h.next + 1 + 1) 0 ∧ Fr.get tm 5 = sS ∧ Fr.get tm 6 = .slice va L.length vc ∧ Fr.get tm 9 = .slice wa M.length wc ∧ Fr.get tm 10 = qS ∧ Fr.get tm 11 = .int .i64 ((i : Int) - 1) ∧ SL (intE .i64) 1 h2 sS S ∧ dig S ∧ S.length ≤ 16 ∧ SL (intE .i64) 1 h2 qS Q ∧ dig Q ∧ Q.length ≤ 16 ∧ Fresh h0.next qS ∧ val S + val Q * val b = val a ∧ val S < val b * 2 ^ i ∧ Ext hE h2)
      (fun q => ∃ (tm : Fr) (h2 : Heap) (S Q : List Int) (sS qS : Value), q.2 = ⟨tm, h2, []⟩ ∧ q.1 = .exit 2 ∧ Fr.get tm 2 = ptr h.next 0 ∧ Fr.get tm 3 = ptr (h.next + 1) 0 ∧ Fr.get tm 4 = ptr (h.next + 1 + 1) 0 ∧ Fr.get tm 5 = sS ∧ Fr.get tm 10 = qS ∧ SL (intE .i64) 1 h2 sS S ∧ dig S ∧ S.length ≤ 16 ∧ SL (intE .i64) 1 h2 qS Q ∧ dig Q ∧ Q.length ≤ 16 ∧ Fresh h0.next qS ∧ val S + val Q * val b = val a ∧ val S < val b ∧ Ext hE h2) ?_ j _ _ ?_ ?_).mono ?_
    · clear g2 g3 g4 g5 g6 g9
      rintro m' _ ⟨i, tm, h2, S, Q, sS, qS, rfl, rfl, hi, g2, g3, g4, g5, g6, g9, g10, g11, sl, dS', lS, ql, dQ, lQ, fQ, hv, hl, x2⟩
      cases m' with
      | zero =>
        have d1 : decide (0 ≤ ((0 : Nat) : Int) - 1) = false := by decide
        simp (maxSteps := 1000000) (disch := first | decide | omega | (simp only [go_sem]; first | done | omega)) only [go_sem, Int.reduceToNat, Nat.reduceMul, Nat.reduceAdd, Nat.reduceSub, ↓EU_region, ↓EU_draw, g11, d1]
        exact ⟨_, h2, S, Q, sS, qS, rfl, trivial, by simp (maxSteps := 1000000) (disch := first | decide | omega | (simp only [go_sem]; first | done | omega)) only [go_sem, Int.reduceToNat, Nat.reduceMul, Nat.reduceAdd, Nat.reduceSub, ↓EU_region, ↓EU_draw, g2], by simp (maxSteps := 1000000) (disch := first | decide | omega | (simp only [go_sem]; first | done | omega)) only [go_sem, Int.reduceToNat, Nat.reduceMul, Nat.reduceAdd, Nat.reduceSub, ↓EU_region, ↓EU_draw, g3], by simp (maxSteps := 1000000) (disch := first | decide | omega | (simp only [go_sem]; first | done | omega)) only [go_sem, Int.reduceToNat, Nat.reduceMul, Nat.reduceAdd, Nat.reduceSub, ↓EU_region, ↓EU_draw, g4], by simp (maxSteps := 1000000) (disch := first | decide | omega | (simp only [go_sem]; first | done | omega)) only [go_sem, Int.reduceToNat, Nat.reduceMul, Nat.reduceAdd, Nat.reduceSub, ↓EU_region, ↓EU_draw, g5], by simp (maxSteps := 1000000) (disch := first | decide | omega | (simp only [go_sem]; first | done | omega)) only [go_sem, Int.reduceToNat, Nat.reduceMul, Nat.reduceAdd, Nat.reduceSub, ↓EU_region, ↓EU_draw, g10], sl, dS', lS, ql, dQ, lQ, fQ, hv, by simpa using hl, x2⟩
      | succ i =>
        have d1 : decide (0 ≤ ((i + 1 : Nat) : Int) - 1) = true := decide_eq_true (by omega)
        have ei : ((i + 1 : Nat) : Int) - 1 = (i : Int) := by omega
        rw [ei] at g11 d1
        obtain ⟨s, hs1⟩ : ∃ s, L[i]? = some s := ⟨_, List.getElem?_eq_getElem (by omega)⟩
        obtain ⟨t, ht1⟩ : ∃ s, M[i]? = some s := ⟨_, List.getElem?_eq_getElem (by omega)⟩
        obtain ⟨l, ls1, ls2, ls3, ls4⟩ := A1 i s hs1
        obtain ⟨o', os1, os2, os3, os4⟩ := A2 i t ht1
        obtain ⟨B1, p1, q1, e, hb1, _, hr1⟩ := (sV.ext x2).at hs1 (eS_len s)
        cases e
        obtain ⟨B2, p2, q2, e, hb2, _, hr2⟩ := (sW.ext x2).at ht1 (eS_len t)
        cases e
        have r1 := hr1 0 _ rfl
        have r2 := hr2 0 _ rfl
        rw [Nat.add_zero] at r1 r2
        have hcmp := cmpSize_ev l S (slV s) sS h2 (ls1.ext x2) sl ls2 dS' (by omega) (by omega)
        have hwi : wrapF .i64 ((i : Int) - 1) = (i : Int) - 1 := wrap64 (by omega)
        have hB2 : 1 ≤ val b * 2 ^ i := by
          have := Int.mul_le_mul hB (show (1 : Int) ≤ 2 ^ i by have := two_pos i; omega) (by decide) (by omega)
          omega
        have hl2 : val S < 2 * (val b * 2 ^ i) := by rw [two_succ] at hl; rw [show 2 * (val b * 2 ^ i) = val b * (2 * 2 ^ i) by grind]; exact hl
        by_cases q : val l ≤ val S
        · have dq : decide (sgnC (val l) (val S) ≤ 0) = true := decide_eq_true (by unfold sgnC; split <;> (try split) <;> omega)
          simp (maxSteps := 1000000) (disch := first | decide | omega | (simp only [go_sem]; first | done | omega)) only [go_sem, Int.reduceToNat, Nat.reduceMul, Nat.reduceAdd, Nat.reduceSub, ↓EU_region, ↓EU_draw, g5, g6, g9, g10, g11, d1, r1, hcmp, dq]
          repeat refine WPo_ob ?_
          refine (putS_ev S l sS (slV s) h2 sl (ls1.ext x2) dS' ls2 (by omega) (by omega) q).mono ?_
          rintro ⟨v3, h3⟩ ⟨S', s3, f3, x3, d3, vS, lS'⟩
          simp only at s3 f3 x3
          have hr2' := (sW.ext (x2.trans x3)).at ht1 (eS_len t)
          obtain ⟨B3, p3, q3, e, hb3, _, hr3⟩ := hr2'
          cases e
          have r3 := hr3 0 _ rfl
          rw [Nat.add_zero] at r3
          simp (maxSteps := 1000000) (disch := first | decide | omega | (simp only [go_sem]; first | done | omega)) only [go_sem, Int.reduceToNat, Nat.reduceMul, Nat.reduceAdd, Nat.reduceSub, ↓EU_region, ↓EU_draw, g9, g10, g11, r3]
          repeat refine WPo_ob ?_
          refine (putA_ev Q o' qS (slV t) h3 (ql.ext x3) (os1.ext (x2.trans x3)) dQ os2 (by omega) (by omega)).mono ?_
          rintro ⟨v4, h4⟩ ⟨Q', s4, f4, x4, d4, vQ, lQ'⟩
          simp only at s4 f4 x4
          simp (maxSteps := 1000000) (disch := first | decide | omega | (simp only [go_sem]; first | done | omega)) only [go_sem, Int.reduceToNat, Nat.reduceMul, Nat.reduceAdd, Nat.reduceSub, ↓EU_region, ↓EU_draw, g11, hwi]
          have hvv : val S' + val Q' * val b = val a := by rw [vS, vQ, ls4, os4, Int.add_mul]; have : (2 : Int) ^ i * val b = val b * 2 ^ i := Int.mul_comm _ _; omega
          have hS0 := (val_range d3).1
          have hQ0 := (val_range d4).1
          have hQa : val Q' ≤ val a := by
            have := Int.mul_le_mul_of_nonneg_left hB hQ0
            omega
          have hQl : Q'.length ≤ 16 := by
            rcases lQ' with q | q | q
            · omega
            · omega
            · have := pw_inv (a := Q'.length - 1) (b := 15) (by omega)
              omega
          have hE0 := yE.le
          have hx2 := x2.le
          have hx3 := x3.le
          exact ⟨i, by omega, i, _, h4, S', Q', v3, v4, rfl, rfl, by omega, by simp (maxSteps := 1000000) (disch := first | decide | omega | (simp only [go_sem]; first | done | omega)) only [go_sem, Int.reduceToNat, Nat.reduceMul, Nat.reduceAdd, Nat.reduceSub, ↓EU_region, ↓EU_draw, g2], by simp (maxSteps := 1000000) (disch := first | decide | omega | (simp only [go_sem]; first | done | omega)) only [go_sem, Int.reduceToNat, Nat.reduceMul, Nat.reduceAdd, Nat.reduceSub, ↓EU_region, ↓EU_draw, g3], by simp (maxSteps := 1000000) (disch := first | decide | omega | (simp only [go_sem]; first | done | omega)) only [go_sem, Int.reduceToNat, Nat.reduceMul, Nat.reduceAdd, Nat.reduceSub, ↓EU_region, ↓EU_draw, g4], by simp (maxSteps := 1000000) (disch := first | decide | omega | (simp only [go_sem]; first | done | omega)) only [go_sem, Int.reduceToNat, Nat.reduceMul, Nat.reduceAdd, Nat.reduceSub, ↓EU_region, ↓EU_draw], by simp (maxSteps := 1000000) (disch := first | decide | omega | (simp only [go_sem]; first | done | omega)) only [go_sem, Int.reduceToNat, Nat.reduceMul, Nat.reduceAdd, Nat.reduceSub, ↓EU_region, ↓EU_draw, g6], by simp (maxSteps := 1000000) (disch := first | decide | omega | (simp only [go_sem]; first | done | omega)) only [go_sem, Int.reduceToNat, Nat.reduceMul, Nat.reduceAdd, Nat.reduceSub, ↓EU_region, ↓EU_draw, g9], by simp (maxSteps := 1000000) (disch := first | decide | omega | (simp only [go_sem]; first | done | omega)) only [go_sem, Int.reduceToNat, Nat.reduceMul, Nat.reduceAdd, Nat.reduceSub, ↓EU_region, ↓EU_draw], by simp (maxSteps := 1000000) (disch := first | decide | omega | (simp only [go_sem]; first | done | omega)) only [go_sem, Int.reduceToNat, Nat.reduceMul, Nat.reduceAdd, Nat.reduceSub, ↓EU_region, ↓EU_draw], s3.ext x4, d3, by omega, s4, d4, hQl, f4.mono (by omega), hvv, by omega, (x2.trans x3).trans x4⟩
        · have dq : decide (sgnC (val l) (val S) ≤ 0) = false := decide_eq_false (by unfold sgnC; split <;> (try split) <;> omega)
          simp (maxSteps := 1000000) (disch := first | decide | omega | (simp only [go_sem]; first | done | omega)) only [go_sem, Int.reduceToNat, Nat.reduceMul, Nat.reduceAdd, Nat.reduceSub, ↓EU_region, ↓EU_draw, g5, g6, g9, g10, g11, d1, r1, hcmp, dq, hwi]
          exact ⟨i, by omega, i, _, h2, S, Q, sS, qS, rfl, rfl, by omega, by simp (maxSteps := 1000000) (disch := first | decide | omega | (simp only [go_sem]; first | done | omega)) only [go_sem, Int.reduceToNat, Nat.reduceMul, Nat.reduceAdd, Nat.reduceSub, ↓EU_region, ↓EU_draw, g2], by simp (maxSteps := 1000000) (disch := first | decide | omega | (simp only [go_sem]; first | done | omega)) only [go_sem, Int.reduceToNat, Nat.reduceMul, Nat.reduceAdd, Nat.reduceSub, ↓EU_region, ↓EU_draw, g3], by simp (maxSteps := 1000000) (disch := first | decide | omega | (simp only [go_sem]; first | done | omega)) only [go_sem, Int.reduceToNat, Nat.reduceMul, Nat.reduceAdd, Nat.reduceSub, ↓EU_region, ↓EU_draw, g4], by simp (maxSteps := 1000000) (disch := first | decide | omega | (simp only [go_sem]; first | done | omega)) only [go_sem, Int.reduceToNat, Nat.reduceMul, Nat.reduceAdd, Nat.reduceSub, ↓EU_region, ↓EU_draw, g5], by simp (maxSteps := 1000000) (disch := first | decide | omega | (simp only [go_sem]; first | done | omega)) only [go_sem, Int.reduceToNat, Nat.reduceMul, Nat.reduceAdd, Nat.reduceSub, ↓EU_region, ↓EU_draw, g6], by simp (maxSteps := 1000000) (disch := first | decide | omega | (simp only [go_sem]; first | done | omega)) only [go_sem, Int.reduceToNat, Nat.reduceMul, Nat.reduceAdd, Nat.reduceSub, ↓EU_region, ↓EU_draw, g9], by simp (maxSteps := 1000000) (disch := first | decide | omega | (simp only [go_sem]; first | done | omega)) only [go_sem, Int.reduceToNat, Nat.reduceMul, Nat.reduceAdd, Nat.reduceSub, ↓EU_region, ↓EU_draw, g10], by simp (maxSteps := 1000000) (disch := first | decide | omega | (simp only [go_sem]; first | done | omega)) only [go_sem, Int.reduceToNat, Nat.reduceMul, Nat.reduceAdd, Nat.reduceSub, ↓EU_region, ↓EU_draw], sl, dS', lS, ql, dQ, lQ, fQ, hv, by omega, x2⟩
    · refine ⟨j, _, hE, a, [0], _, _, rfl, rfl, Nat.le_refl _, by simp (maxSteps := 1000000) (disch := first | decide | omega | (simp only [go_sem]; first | done | omega)) only [go_sem, Int.reduceToNat, Nat.reduceMul, Nat.reduceAdd, Nat.reduceSub, ↓EU_region, ↓EU_draw, g2], by simp (maxSteps := 1000000) (disch := first | decide | omega | (simp only [go_sem]; first | done | omega)) only [go_sem, Int.reduceToNat, Nat.reduceMul, Nat.reduceAdd, Nat.reduceSub, ↓EU_region, ↓EU_draw, g3], by simp (maxSteps := 1000000) (disch := first | decide | omega | (simp only [go_sem]; first | done | omega)) only [go_sem, Int.reduceToNat, Nat.reduceMul, Nat.reduceAdd, Nat.reduceSub, ↓EU_region, ↓EU_draw, g4], by simp (maxSteps := 1000000) (disch := first | decide | omega | (simp only [go_sem]; first | done | omega)) only [go_sem, Int.reduceToNat, Nat.reduceMul, Nat.reduceAdd, Nat.reduceSub, ↓EU_region, ↓EU_draw, g5], by simp (maxSteps := 1000000) (disch := first | decide | omega | (simp only [go_sem]; first | done | omega)) only [go_sem, Int.reduceToNat, Nat.reduceMul, Nat.reduceAdd, Nat.reduceSub, ↓EU_region, ↓EU_draw, g6], by simp (maxSteps := 1000000) (disch := first | decide | omega | (simp only [go_sem]; first | done | omega)) only [go_sem, Int.reduceToNat, Nat.reduceMul, Nat.reduceAdd, Nat.reduceSub, ↓EU_region, ↓EU_draw, g9], by simp (maxSteps := 1000000) (disch := first | decide | omega | (simp only [go_sem]; first | done | omega)) only [go_sem, Int.reduceToNat, Nat.reduceMul, Nat.reduceAdd, Nat.reduceSub, ↓EU_region, ↓EU_draw], by simp (maxSteps := 1000000) (disch := first | decide | omega | (simp only [go_sem]; first | done | omega)) only [go_sem, Int.reduceToNat, Nat.reduceMul, Nat.reduceAdd, Nat.reduceSub, ↓EU_region, ↓EU_draw], (hs.ext x0).ext yE, ha, by omega, oq, dig_one (by decide), by decide, fq, by simp [val], hlt, Ext.refl _⟩
    · omega
    · clear g2 g3 g4 g5 g6 g9
      rintro ⟨_, _⟩ ⟨tm, h2, S, Q, sS, qS, rfl, rfl, g2, g3, g4, g5, g10, sl, dS', lS, ql, dQ, lQ, fQ, hv, hl, x2⟩
      obtain ⟨u1, u2⟩ := div_uniq (by omega) hv (val_range dS').1 hl
      have y2 : Ext h0 h2 := yE.trans x2
      have hn2 := y2.le
      have c2' := c2
      have c3' := c3
      have c4' := c4
      rw [← y2.old _ (by omega)] at c2' c3' c4'
      obtain ⟨qa, qc, rfl⟩ := ql.val
      obtain ⟨ra, rc, rfl⟩ := sl.val
      obtain ⟨k, hk⟩ : ∃ k, (n != m) = k := ⟨_, rfl⟩
      have x3 : Ext h2 (h2.push (.cells [.bool k, .slice qa Q.length qc] 0)) := (Ext.refl h2).push _
      have c12 : (h2.push (.cells [.bool k, .slice qa Q.length qc] 0)).get h2.next = .cells [.bool k, .slice qa Q.length qc] 0 := get_push_new _ _
      have hn3 : (h2.push (.cells [.bool k, .slice qa Q.length qc] 0)).next = h2.next + 1 := next_push _ _
      have c4'' : (h2.push (.cells [.bool k, .slice qa Q.length qc] 0)).get (h.next + 2) = .cells [.bool false, .slice none 0 1] 0 := by rw [get_push_old _ (by omega)]; exact c4'
      have hcz := cmpSize_ev S [] (.slice ra S.length rc) (.slice none 0 1) (h2.push (.cells [.bool k, .slice qa Q.length qc] 0)) (sl.ext x3) SL.nil dS' dig_nil (by omega) (by decide)
      rw [hk]
      simp (maxSteps := 1000000) (disch := first | decide | omega | (simp only [go_sem]; first | done | omega)) only [go_sem, Int.reduceToNat, Nat.reduceMul, Nat.reduceAdd, Nat.reduceSub, ↓EU_region, ↓EU_draw, g2, g3, g4, g5, g10, c2', c3', hk]
      have y3 := y2.trans x3
      have e0 : val ([] : List Int) = 0 := rfl
      rw [e0] at hcz
      have hS0 := (val_range dS').1
      generalize h2.push (.cells [.bool k, .slice qa Q.length qc] 0) = h3 at *
      unfold flR
      rw [← u1, ← u2]
      cases k with
      | false =>
        simp (maxSteps := 1000000) (disch := first | decide | omega | (simp only [go_sem]; first | done | omega)) only [go_sem, Int.reduceToNat, Nat.reduceMul, Nat.reduceAdd, Nat.reduceSub, ↓EU_region, ↓EU_draw, g4, g5, c12, c4'']
        exact ⟨false, Q, _, rfl, (ql.ext x3).modB (Mod.set (S := fun j => j = h.next + 1 + 1) (Mod.refl _ _) _ _ (fun _ => rfl)) (fun j hj q => by have := fQ j hj; omega), dQ, rfl, by omega, (x0.trans y3).set _ _ (by omega)⟩
      | true =>
        by_cases q : 0 < val S
        · have dq : decide (0 < sgnC (val S) 0) = true := decide_eq_true (by unfold sgnC; rw [if_neg (by omega), if_pos q]; decide)
          simp (maxSteps := 1000000) (disch := first | decide | omega | (simp only [go_sem]; first | done | omega)) only [go_sem, Int.reduceToNat, Nat.reduceMul, Nat.reduceAdd, Nat.reduceSub, ↓EU_region, ↓EU_draw, g4, g5, c12, c4'', hcz, dq]
          rw [EU_bad _ _ rfl, EC_tab (tab := [(false, (some (0, 1))), (true, none), (true, none), (true, none)]) (by kernel_rfl)]
          simp (maxSteps := 1000000) (disch := first | decide | omega | (simp only [go_sem]; first | done | omega)) only [go_sem, Int.reduceToNat, Nat.reduceMul, Nat.reduceAdd, Nat.reduceSub, ↓EU_region, ↓EU_draw, c12]
          repeat refine WPo_ob ?_
          refine (rof_ev (-1) h3 (by decide)).mono ?_
          rintro ⟨v5, h5⟩ ⟨n5, l5, s5, rfl, o5, d5, k5, e5, x5⟩
          simp only at o5 x5
          obtain ⟨pa, pc, rfl⟩ := o5.val
          have hn5 := x5.le
          have c12' := c12
          rw [← x5.old _ (by omega)] at c12'
          unfold bigV
          simp (maxSteps := 1000000) (disch := first | decide | omega | (simp only [go_sem]; first | done | omega)) only [go_sem, Int.reduceToNat, Nat.reduceMul, Nat.reduceAdd, Nat.reduceSub, ↓EU_region, ↓EU_draw, c12, c12']
          repeat refine WPo_ob ?_
          have hadd := radd_fr true n5 Q l5 _ _ h5 ((ql.ext x3).ext x5) o5 dQ d5 (by omega) (by omega)
          unfold bigV at hadd
          refine hadd.mono ?_
          rintro ⟨v6, h6⟩ ⟨n6, l6, s6, rfl, o6, d6, e6, k6, x6, f6⟩
          simp only at o6 x6 f6
          obtain ⟨ua, uc, rfl⟩ := o6.val
          have hn6 := x6.le
          have c12'' := c12'
          rw [← x6.old _ (by omega)] at c12''
          have c46 := c4''
          rw [← (x5.trans x6).old _ (by omega)] at c46
          have hvb : veq (.bool true) (.bool true) = true := veq_bool _
          have hvs := ql.veq
          have hvl : veqL [.bool true, .slice qa Q.length qc] [.bool true, .slice qa Q.length qc] = true := by
            rw [veqL_c _ _ _ _ (by simp) (by simp), hvb, veqL_c _ _ _ _ (by simp) (by simp), hvs, veqL_n]; rfl
          simp (maxSteps := 1000000) (disch := first | decide | omega | (simp only [go_sem]; first | done | omega)) only [go_sem, Int.reduceToNat, Nat.reduceMul, Nat.reduceAdd, Nat.reduceSub, ↓EU_region, ↓EU_draw, g4, c12, c12', c12'', c46, hvl]
          refine ⟨n6, l6, _, rfl, o6.modB (Mod.set (S := fun j => j = h.next + 1 + 1) (Mod.refl _ _) _ _ (fun _ => rfl)) (fun j hj q => by have := f6 j hj; omega), d6, ?_, by omega, ((x0.trans y3).trans (x5.trans x6)).set _ _ (by omega)⟩
          rw [e6, e5]
          simp only [if_true]
          rw [if_pos q]
          show -val Q + -1 = -val Q - 1
          omega
        · have dq : decide (0 < sgnC (val S) 0) = false := decide_eq_false (by unfold sgnC; split <;> (try split) <;> omega)
          simp (maxSteps := 1000000) (disch := first | decide | omega | (simp only [go_sem]; first | done | omega)) only [go_sem, Int.reduceToNat, Nat.reduceMul, Nat.reduceAdd, Nat.reduceSub, ↓EU_region, ↓EU_draw, g4, g5, c12, c4'', hcz, dq]
          exact ⟨true, Q, _, rfl, (ql.ext x3).modB (Mod.set (S := fun j => j = h.next + 1 + 1) (Mod.refl _ _) _ _ (fun _ => rfl)) (fun j hj q => by have := fQ j hj; omega), dQ, by simp only [if_true]; rw [if_neg q]; rfl, by omega, (x0.trans y3).set _ _ (by omega)⟩
end Go.Proofs.Ytoomhlfogeglcaa.EV
