/- Contracts: loads: Move, Even. No condition. -/
import Derived.Test.YtnopeboieicipaaLoad5
namespace Go.Proofs.Ytnopeboieicipaa.EV
open Go Go.Proofs
set_option linter.unusedVariables false
set_option linter.unusedSimpArgs false
set_option maxRecDepth 100000
set_option pp.deepTerms false
set_option pp.deepTerms.threshold 20
theorem Sane.rng {ld : List Int} (s : Sane ld) : ∀ x ∈ ld, 0 ≤ x ∧ x ≤ 1099511627776 := fun x hx => by
  have h1 := s.pos x hx
  have h2 := mxL_ge hx
  have h3 := s.mx
  omega
theorem moveT_ev (ld : List Int) (l : List Tk) (v w : Value) (h : Heap) (hs : SL (intE .i64) 1 h v ld) (ht : SL tkE 4 h w l) (sn : Sane ld) (hl : ∀ x ∈ l, TkOk ld.length x) (h2 : l.length < 900000) :
    WPo (EF Try.prog O0 9 [v, w] h) fun q => ∃ a b : Int, q.1 = .tuple ⟨[.int .i64 a, .int .i64 b, .bool (mvN ld l l.length).isSome]⟩ ∧ Ext h q.2 := by
  have h1 := sn.len16
  rw [EF_body (O := O0) (by kernel_rfl) Try.func9 rfl (rs := [.tmp 4, .tmp 5, .tmp 6]) rfl (bad := []) (by kernel_rfl) _ _ (m := 27) rfl]
  simp (maxSteps := 1000000) (disch := first | decide | omega | (simp only [go_sem]; first | done | omega)) only [go_sem, Int.reduceToNat, Nat.reduceMul, Nat.reduceAdd, Nat.reduceSub, ↓EU_region, ↓EU_draw]
  repeat refine WPo_ob ?_
  refine (may_ev ld l v w h hs ht sn.rng hl (by omega) h2).bind fun h1' x1 => ?_
  simp (maxSteps := 1000000) (disch := first | decide | omega | (simp only [go_sem]; first | done | omega)) only [go_sem, Int.reduceToNat, Nat.reduceMul, Nat.reduceAdd, Nat.reduceSub, ↓EU_region, ↓EU_draw]
  repeat refine WPo_ob ?_
  refine (move_ev ld l v w h1' (hs.ext x1) (ht.ext x1) sn.rng hl sn.len h1 h2).bind fun h2' x2 => ?_
  unfold mvV
  cases hm : mvN ld l l.length with
  | none =>
    rw [show (none : Option (Nat × Nat)).isSome = false from rfl]
    simp (maxSteps := 1000000) (disch := first | decide | omega | (simp only [go_sem]; first | done | omega)) only [go_sem, Int.reduceToNat, Nat.reduceMul, Nat.reduceAdd, Nat.reduceSub, ↓EU_region, ↓EU_draw]
    exact ⟨_, _, rfl, x1.trans x2⟩
  | some p =>
    obtain ⟨pa, pc⟩ := p
    obtain ⟨ha, t, hta, _⟩ := mvN_is ld l _ pa pc hm
    obtain ⟨b, o, c, e, _, _, hr⟩ := ((ht.ext x1).ext x2).at hta rfl
    cases e
    have hr0 := hr 0 _ rfl
    rw [Nat.add_zero] at hr0
    rw [show (some (pa, pc) : Option (Nat × Nat)).isSome = true from rfl, show mA (some (pa, pc)) = (pa : Int) from rfl, show mT (some (pa, pc)) = (pc : Int) from rfl]
    simp (maxSteps := 1000000) (disch := first | decide | omega | (simp only [go_sem]; first | done | omega)) only [go_sem, Int.reduceToNat, Nat.reduceMul, Nat.reduceAdd, Nat.reduceSub, ↓EU_region, ↓EU_draw, hr0]
    exact ⟨_, _, rfl, x1.trans x2⟩
theorem OW.put1 {h : Heap} {v : Value} {l : List Int} (s : OW (intE .i64) 1 h v l) (i : Nat) (x : Int) (hi : i < l.length) : ∃ b o c cs, v = .slice (some ⟨b, o, none⟩) l.length c ∧ b < h.next ∧ h.get b = .cells cs 1 ∧ o + i * 1 < cs.length ∧ cs[o + i * 1]? = some (.int .i64 (l.getD i 0)) ∧ OW (intE .i64) 1 (h.set b (.cells (cs.set (o + i * 1) (.int .i64 x)) 1)) v (l.set i x) := by
  obtain ⟨b, o, c, cs, rfl, hb, hc, hl, hp⟩ := s.put i64_len i x hi
  obtain ⟨b', o', c', e, _, _, hr⟩ := s.sl.at (List.getElem?_eq_getElem hi) rfl
  cases e
  have hr0 := hr 0 _ rfl
  rw [Nat.add_zero, hc, rdc1_c] at hr0
  refine ⟨b, o, c, cs, rfl, hb, hc, by omega, ?_, ?_⟩
  · rw [getD_of (List.getElem?_eq_getElem hi)]; exact hr0
  · exact hp
theorem set_cells_splice {cs : List Value} {k : Nat} {a b c d c' : Value} (h : (cs.drop k).take 4 = [a, b, c, d]) : splice cs k [a, b, c', d] = cs.set (k + 2) c' := by
  have hlen : k + 4 ≤ cs.length := by
    have := congrArg List.length h
    rw [List.length_take, List.length_drop] at this
    simp only [List.length_cons, List.length_nil] at this
    omega
  have hh : ∀ j, j < 4 → cs[k + j]? = [a, b, c, d][j]? := fun j hj => by
    rw [← h, List.getElem?_take_of_lt hj, List.getElem?_drop]
  apply List.ext_getElem?
  intro i
  rw [splice_get (by simpa using hlen), List.getElem?_set]
  simp only [List.length_cons, List.length_nil]
  by_cases q : k ≤ i ∧ i < k + (0 + 1 + 1 + 1 + 1)
  · rw [if_pos q]
    obtain ⟨j, rfl⟩ : ∃ j, i = k + j := ⟨i - k, by omega⟩
    rw [Nat.add_sub_cancel_left]
    have h4 : j = 0 ∨ j = 1 ∨ j = 2 ∨ j = 3 := by omega
    rcases h4 with rfl | rfl | rfl | rfl
    · rw [if_neg (by omega), hh 0 (by omega)]; rfl
    · rw [if_neg (by omega), hh 1 (by omega)]; rfl
    · rw [if_pos rfl, if_pos (by omega)]; rfl
    · rw [if_neg (by omega), hh 3 (by omega)]; rfl
  · rw [if_neg q, if_neg (by omega)]
theorem OW.putC {h : Heap} {v : Value} {l : List Tk} (s : OW tkE 4 h v l) (i : Nat) (t : Tk) (x : Int) (hi : l[i]? = some t) : ∃ b o c cs, v = .slice (some ⟨b, o, none⟩) l.length c ∧ b < h.next ∧ h.get b = .cells cs 4 ∧ o + i * 4 + 4 ≤ cs.length ∧ (∀ (j : Nat) (y : Value), (tkE t)[j]? = some y → cs[o + i * 4 + j]? = some y) ∧ OW tkE 4 (h.set b (.cells (cs.set (o + i * 4 + 2) (.int .i64 x)) 4)) v (l.set i ⟨t.id, t.w, x, t.mask⟩) := by
  have hl' := (List.getElem?_eq_some_iff.1 hi).1
  obtain ⟨b, o, c, cs, rfl, hb, hc, hl, hp⟩ := s.put tkE_len i ⟨t.id, t.w, x, t.mask⟩ hl'
  obtain ⟨b', o', c', e, _, hrd, hr⟩ := s.sl.at hi rfl
  cases e
  rw [hc] at hrd
  refine ⟨b, o, c, cs, rfl, hb, hc, hl, fun j y hj => ?_, ?_⟩
  · have := hr j y hj
    rw [hc, rdc1_c] at this
    exact this
  · rw [rdc_of rfl _ _ hl] at hrd
    have e2 : (cs.drop (o + i * 4)).take 4 = [.int .i64 t.id, .int .i64 t.w, .int .i64 t.core, .int .u16 (t.mask : Int)] := Option.some.inj hrd
    have := set_cells_splice (c' := .int .i64 x) e2
    unfold tkE at hp
    rw [this] at hp
    exact hp
set_option maxHeartbeats 8000000 in
theorem even_ev (n : Nat) (mx : Int) (ld : List Int) (l : List Tk) (v w : Value) (h : Heap) (hs : SL (intE .i64) 1 h v ld) (ht : SL tkE 4 h w l) (h2 : l.length < 900000) (J : JJ n l mx ld l) :
    WPo (EF Try.prog O0 10 [v, w, .int .i64 1000] h) fun q => ∃ ld' l', JJ n l mx ld' l' ∧ mvN ld' l' l'.length = none ∧ SL tkE 4 q.2 q.1 l' ∧ Ext h q.2 := by
  have hn := J.len
  have h1 := J.sane.len16
  rw [EF_body (O := O0) (by kernel_rfl) Try.func10 rfl (rs := [.tmp 6]) rfl (bad := []) (by kernel_rfl) _ _ (m := 67) rfl]
  simp (maxSteps := 1000000) (disch := first | decide | omega | (simp only [go_sem]; first | done | omega)) only [go_sem, Int.reduceToNat, Nat.reduceMul, Nat.reduceAdd, Nat.reduceSub, ↓EU_region, ↓EU_draw]
  repeat refine WPo_ob ?_
  refine (tclone_ev l w h ht h2).mono ?_
  rintro ⟨w1, g1⟩ ⟨ow, fw, x1⟩
  simp only at ow fw x1
  obtain ⟨a1, c1, rfl⟩ := ow.val
  have hok : ∀ x ∈ l, TkOk ld.length x := fun x hx => by
    obtain ⟨i, hi⟩ := List.mem_iff_getElem?.1 hx
    rw [hn]; exact (J.tk i x hi).1
  simp (maxSteps := 1000000) (disch := first | decide | omega | (simp only [go_sem]; first | done | omega)) only [go_sem, Int.reduceToNat, Nat.reduceMul, Nat.reduceAdd, Nat.reduceSub, ↓EU_region, ↓EU_draw]
  repeat refine WPo_ob ?_
  refine (may_ev ld l v w g1 (hs.ext x1) (ht.ext x1) J.sane.rng hok (by omega) h2).bind fun g2 x2 => ?_
  simp (maxSteps := 1000000) (disch := first | decide | omega | (simp only [go_sem]; first | done | omega)) only [go_sem, Int.reduceToNat, Nat.reduceMul, Nat.reduceAdd, Nat.reduceSub, ↓EU_region, ↓EU_draw]
  repeat refine WPo_ob ?_
  refine (lclone_ev ld v g2 ((hs.ext x1).ext x2) (by omega)).mono ?_
  rintro ⟨v1, g3⟩ ⟨ov, fv, x3⟩
  simp only at ov fv x3
  obtain ⟨a2, c2, rfl⟩ := ov.val
  have x0 : Ext h g3 := (x1.trans x2).trans x3
  have ow' := (ow.ext x2).ext x3
  have hdis : ∀ i, blkOf (.slice a1 l.length c1) i → ¬ blkOf (.slice a2 ld.length c2) i := fun i q1 q2 => by
    have := ow.lt q1
    have := fv i q2
    have := x2.le
    omega
  have fv' : Fresh h.next (.slice a2 ld.length c2) := fv.mono (x1.trans x2).le
  have d0 : decide ((0 : Int) < 1000) = true := rfl
  simp (maxSteps := 1000000) (disch := first | decide | omega | (simp only [go_sem]; first | done | omega)) only [go_sem, Int.reduceToNat, Nat.reduceMul, Nat.reduceAdd, Nat.reduceSub, ↓EU_region, ↓EU_draw, dec_t, dec_f]
  repeat refine WPo_ob ?_
  refine (LP_rule (fun m st => ∃ (i : Nat) (tm : Fr) (h' : Heap) (ld' : List Int) (l' : List Tk), st = ⟨tm, h', []⟩ ∧ m = 1000 - i ∧ i ≤ 1000 ∧ Fr.get tm 0 = .slice a2 ld.length c2 ∧ Fr.get tm 7 = .slice a1 l.length c1 ∧ Fr.get tm 23 = .int .i64 1000 ∧ Fr.get tm 24 = .int .i64 (i : Int) ∧ JJ n l mx ld' l' ∧ pot ld' + i ≤ 825 ∧ OW tkE 4 h' (.slice a1 l.length c1) l' ∧ OW (intE .i64) 1 h' (.slice a2 ld.length c2) ld' ∧ Ext h h')
    (fun q => ∃ (tm : Fr) (h' : Heap) (ld' : List Int) (l' : List Tk), q.2 = ⟨tm, h', []⟩ ∧ q.1 = .exit 0 ∧ Fr.get tm 7 = .slice a1 l.length c1 ∧ JJ n l mx ld' l' ∧ mvN ld' l' l'.length = none ∧ OW tkE 4 h' (.slice a1 l.length c1) l' ∧ Ext h h') ?_ 1000 _ _ ?_ ?_).mono ?_
  · rintro m _ ⟨i, tm, h', ld', l', rfl, rfl, hi, g0, g7, g23, g24, J', hp, o1, o2, xx⟩
    have d1 : decide ((i : Int) < 1000) = true := decide_eq_true (by omega)
    have hwi : wrapF .i64 ((i : Int) + 1) = ((i + 1 : Nat) : Int) := by rw [wrap64 (by omega)]; rfl
    have hok' : ∀ x ∈ l', TkOk ld'.length x := fun x hx => by
      obtain ⟨i, hi⟩ := List.mem_iff_getElem?.1 hx
      rw [J'.len]; exact (J'.tk i x hi).1
    have hld : ld'.length = ld.length := by rw [J'.len, hn]
    have hll := J'.ll
    simp (maxSteps := 1000000) (disch := first | decide | omega | (simp only [go_sem]; first | done | omega)) only [go_sem, Int.reduceToNat, Nat.reduceMul, Nat.reduceAdd, Nat.reduceSub, ↓EU_region, ↓EU_draw, g0, g7, g23, g24, d1]
    repeat refine WPo_ob ?_
    refine (move_ev ld' l' _ _ h' o2.sl o1.sl J'.sane.rng hok' J'.sane.len J'.sane.len16 (by omega)).bind fun h4 x4 => ?_
    unfold mvV
    cases hm : mvN ld' l' l'.length with
    | none =>
      rw [show (none : Option (Nat × Nat)).isSome = false from rfl]
      simp (maxSteps := 1000000) (disch := first | decide | omega | (simp only [go_sem]; first | done | omega)) only [go_sem, Int.reduceToNat, Nat.reduceMul, Nat.reduceAdd, Nat.reduceSub, ↓EU_region, ↓EU_draw]
      exact ⟨_, h4, ld', l', rfl, trivial, by simp (maxSteps := 1000000) (disch := first | decide | omega | (simp only [go_sem]; first | done | omega)) only [go_sem, Int.reduceToNat, Nat.reduceMul, Nat.reduceAdd, Nat.reduceSub, ↓EU_region, ↓EU_draw, g7], J', hm, o1.ext x4, xx.trans x4⟩
    | some p =>
      obtain ⟨pa, pc⟩ := p
      obtain ⟨t, d, hta, hcore, hd, hc, hdc, hw, J2, hp2⟩ := J'.step hm
      rw [show (some (pa, pc) : Option (Nat × Nat)).isSome = true from rfl, show mA (some (pa, pc)) = (pa : Int) from rfl, show mT (some (pa, pc)) = (pc : Int) from rfl]
      obtain ⟨B2, p2, cc2, cs2, e, hB2, hc2, hl2, hr2, s1⟩ := (o2.ext x4).put1 d (ld'.getD d 0 - t.w) (by omega)
      rw [hld] at e
      cases e
      obtain ⟨B2', p2', cc2', cs2', e, hB2', hc2', hl2', hr2', s2⟩ := s1.put1 pc (ld'.getD pc 0 + t.w) (by rw [List.length_set]; omega)
      rw [List.length_set, hld] at e
      cases e
      rw [get_set_same] at hc2'
      cases hc2'
      rw [getD_set_ne' hdc] at hr2'
      rw [set_set] at s2
      have hne : ∀ i, blkOf (.slice a1 l.length c1) i → i ≠ B2 := fun i q1 q2 => hdis i q1 q2.symm
      have o1' : OW tkE 4 (h4.set B2 (.cells ((cs2.set (p2 + d * 1) (.int .i64 (ld'.getD d 0 - t.w))).set (p2 + pc * 1) (.int .i64 (ld'.getD pc 0 + t.w))) 1)) (.slice a1 l.length c1) l' := (o1.ext x4).mod ((Mod.refl (fun j => j = B2) h4).set _ _ fun _ => rfl) hne
      obtain ⟨B1, p1, cc1, cs1, e, hB1, hc1, hl1, hr1, s3⟩ := o1'.putC pa t pc hta
      rw [hll] at e
      cases e
      have hne1 : B1 ≠ B2 := hne B1 rfl
      rw [get_set_ne _ hne1] at hc1
      have q1 := hr1 1 _ rfl
      have q2 := hr1 2 _ rfl
      rw [hcore] at q2
      have hdn := getD_nn J'.sane.pos (show d < ld'.length by omega)
      have hcn := getD_nn J'.sane.pos (show pc < ld'.length by omega)
      have hmx := J'.sane.mx
      have hdm : ld'.getD d 0 ≤ mxL ld' := by rw [getD_of (List.getElem?_eq_getElem (show d < ld'.length by omega))]; exact mxL_ge (List.getElem_mem _)
      have hcm : ld'.getD pc 0 ≤ mxL ld' := by rw [getD_of (List.getElem?_eq_getElem (show pc < ld'.length by omega))]; exact mxL_ge (List.getElem_mem _)
      have hpa := (List.getElem?_eq_some_iff.1 hta).1
      have tw1 := (J'.tk pa t hta).1.1
      have tw2 := (J'.tk pa t hta).1.2.1
      have w1 : wrapF .i64 (ld'.getD d 0 - t.w) = ld'.getD d 0 - t.w := wrap64 (by omega)
      have w2 : wrapF .i64 (ld'.getD pc 0 + t.w) = ld'.getD pc 0 + t.w := wrap64 (by omega)
      simp (maxSteps := 1000000) (disch := first | decide | omega | (simp only [go_sem]; first | done | omega)) only [go_sem, Int.reduceToNat, Nat.reduceMul, Nat.reduceAdd, Nat.reduceSub, ↓EU_region, ↓EU_draw, g0, g7, g24, hc1, hc2, q1, q2, hr2, hr2', w1, w2, hwi]
      have hneR : ∀ i, blkOf (.slice (some { block := B2, off := p2 }) ld.length c2) i → i ≠ B1 := fun i q1 q2 => by cases q1; exact hne1 q2.symm
      have fb2 : h.next ≤ B2 := fv' B2 rfl
      have fb1 : h.next ≤ B1 := fw B1 rfl
      exact ⟨1000 - (i + 1), by omega, i + 1, _, _, stp ld' d pc t.w, _, rfl, rfl, by omega, by simp (maxSteps := 1000000) (disch := first | decide | omega | (simp only [go_sem]; first | done | omega)) only [go_sem, Int.reduceToNat, Nat.reduceMul, Nat.reduceAdd, Nat.reduceSub, ↓EU_region, ↓EU_draw, g0], by simp (maxSteps := 1000000) (disch := first | decide | omega | (simp only [go_sem]; first | done | omega)) only [go_sem, Int.reduceToNat, Nat.reduceMul, Nat.reduceAdd, Nat.reduceSub, ↓EU_region, ↓EU_draw, g7], by simp (maxSteps := 1000000) (disch := first | decide | omega | (simp only [go_sem]; first | done | omega)) only [go_sem, Int.reduceToNat, Nat.reduceMul, Nat.reduceAdd, Nat.reduceSub, ↓EU_region, ↓EU_draw, g23], by simp (maxSteps := 1000000) (disch := first | decide | omega | (simp only [go_sem]; first | done | omega)) only [go_sem, Int.reduceToNat, Nat.reduceMul, Nat.reduceAdd, Nat.reduceSub, ↓EU_region, ↓EU_draw], J2, by omega, s3, s2.mod ((Mod.refl (fun j => j = B1) _).set _ _ fun _ => rfl) hneR, ((xx.trans x4).set _ _ fb2).set _ _ fb1⟩
  · exact ⟨0, _, g3, ld, l, rfl, rfl, by omega, by simp (maxSteps := 1000000) (disch := first | decide | omega | (simp only [go_sem]; first | done | omega)) only [go_sem, Int.reduceToNat, Nat.reduceMul, Nat.reduceAdd, Nat.reduceSub, ↓EU_region, ↓EU_draw], by simp (maxSteps := 1000000) (disch := first | decide | omega | (simp only [go_sem]; first | done | omega)) only [go_sem, Int.reduceToNat, Nat.reduceMul, Nat.reduceAdd, Nat.reduceSub, ↓EU_region, ↓EU_draw], by simp (maxSteps := 1000000) (disch := first | decide | omega | (simp only [go_sem]; first | done | omega)) only [go_sem, Int.reduceToNat, Nat.reduceMul, Nat.reduceAdd, Nat.reduceSub, ↓EU_region, ↓EU_draw]; rfl, by simp (maxSteps := 1000000) (disch := first | decide | omega | (simp only [go_sem]; first | done | omega)) only [go_sem, Int.reduceToNat, Nat.reduceMul, Nat.reduceAdd, Nat.reduceSub, ↓EU_region, ↓EU_draw]; rfl, J, by have := J.sane.pot; omega, ow', ov, x0⟩
  · omega
  · rintro ⟨_, _⟩ ⟨tm, h', ld', l', rfl, rfl, g7, J', hm, o1, xx⟩
    simp (maxSteps := 1000000) (disch := first | decide | omega | (simp only [go_sem]; first | done | omega)) only [go_sem, Int.reduceToNat, Nat.reduceMul, Nat.reduceAdd, Nat.reduceSub, ↓EU_region, ↓EU_draw, g7]
    exact ⟨ld', l', J', hm, o1.sl, xx⟩
end Go.Proofs.Ytnopeboieicipaa.EV
