/- LoadCalm, plainly. No condition. -/
import Derived.Test.YtnopeboieicipaaRowTk
namespace Go.Proofs.Ytnopeboieicipaa.EV
open Go Go.Proofs
set_option linter.unusedVariables false
set_option linter.unusedSimpArgs false
set_option maxRecDepth 100000
set_option pp.deepTerms false
set_option pp.deepTerms.threshold 20
theorem zeroRow_i64 (n : Nat) : zeroRow [.int .i64 0] n = (List.replicate n (0 : Int)).flatMap (intE .i64) := by
  induction n with
  | zero => rw [zeroRow_z]; rfl
  | succ n ih => rw [zeroRow_s, ih, List.replicate_succ, List.flatMap_cons]; rfl
theorem ext_getD {a b : List Int} (h : a.length = b.length) (k : ∀ c, c < a.length → a.getD c 0 = b.getD c 0) : a = b := by
  apply List.ext_getElem h
  intro i h1 h2
  have := k i h1
  rwa [getD_of (List.getElem?_eq_getElem h1), getD_of (List.getElem?_eq_getElem h2)] at this
theorem getD_rep (n c : Nat) : (List.replicate n (0 : Int)).getD c 0 = 0 := by
  rw [List.getD_eq_getElem?_getD, List.getElem?_replicate]
  split <;> rfl
theorem sumL_rep : ∀ n : Nat, sumL (List.replicate n 0) = 0
  | 0 => rfl
  | n + 1 => by
    rw [List.replicate_succ]
    show 0 + sumL (List.replicate n 0) = 0
    rw [sumL_rep n]; rfl
theorem sumC_take {l : List Tk} {i : Nat} {x : Tk} (h : l[i]? = some x) (c : Nat) : sumC (l.take (i + 1)) c = sumC (l.take i) c + (if x.core = (c : Int) then x.w else 0) := by
  rw [List.take_add_one, h]
  exact sumC_app x c _
/-- one more laid on -/
structure AT (n : Nat) (l : List Tk) (i : Nat) (at' : List Int) : Prop where
  len : at'.length = n
  pos : ∀ x ∈ at', 0 ≤ x
  sum : sumL at' ≤ 20 * i
  at_ : ∀ c, c < n → at'.getD c 0 = sumC (l.take i) c
theorem AT.zero (n : Nat) (l : List Tk) : AT n l 0 (List.replicate n 0) := ⟨List.length_replicate, fun x hx => by rw [(List.mem_replicate.1 hx).2]; exact Int.le_refl 0, by rw [sumL_rep]; exact Int.le_refl 0, fun c _ => by rw [getD_rep]; rfl⟩
theorem AT.step {n : Nat} {l : List Tk} {i d : Nat} {at' : List Int} {x : Tk} (a : AT n l i at') (h : l[i]? = some x) (ok : TkOk n x) (hd : x.core = (d : Int)) : AT n l (i + 1) (at'.set d (at'.getD d 0 + x.w)) := by
  obtain ⟨w1, w20, k0, k1, _⟩ := ok
  have hl := a.len
  have hdl : d < at'.length := by omega
  have hp := getD_nn a.pos hdl
  refine ⟨by rw [List.length_set]; exact hl, fun y hy => ?_, ?_, fun c hc => ?_⟩
  · rcases List.mem_or_eq_of_mem_set hy with h | h
    · exact a.pos y h
    · omega
  · have := a.sum
    rw [sumL_set _ _ _ hdl]
    omega
  · rw [sumC_take h, ← a.at_ c hc, hd]
    by_cases q : d = c
    · subst q
      rw [getD_set_eq hdl, if_pos rfl]
    · rw [getD_set_ne' q, if_neg (by omega)]; omega
theorem sumL_ge : ∀ {l : List Int}, (∀ x ∈ l, 0 ≤ x) → ∀ {i : Nat}, i < l.length → l.getD i 0 ≤ sumL l
  | y :: l, h, 0, _ => by
    have : 0 ≤ sumL l := by
      have := cntL_sum 0 (Int.le_refl 0) l fun x hx => h x (List.mem_cons_of_mem _ hx)
      omega
    show y ≤ y + sumL l
    omega
  | y :: l, h, i + 1, hi => by
    have := sumL_ge (l := l) (fun x hx => h x (List.mem_cons_of_mem _ hx)) (i := i) (by simpa using hi)
    have := h y (List.mem_cons_self ..)
    show l.getD i 0 ≤ y + sumL l
    omega
theorem topN_lt {ld : List Int} (h : 0 < ld.length) : topN ld < ld.length := (List.getElem?_eq_some_iff.1 (topN_at ld h).1).1
set_option maxHeartbeats 16000000 in
theorem law_LoadCalm (h00 : Heap) (sv : Value) (ld0 : List Int) (hs0 : SL (intE .i64) 1 h00 sv ld0) (wld : ∀ z ∈ ld0, (Lit.int .i64 z).wf = true) (tv : Value) (l : List Tk) (hl : SL tkE 4 h00 tv l) (wl : ∀ z ∈ l, TkWf z) :
    WPo (EF Try.prog O0 4 [sv, tv] h00) fun q => q.1 = .bool true := by
  rw [EF_body (O := O0) (by kernel_rfl) Try.func4 rfl (rs := [.tmp 4]) rfl (bad := []) (by kernel_rfl) _ _ (m := 252) rfl]
  obtain ⟨a0, c0, hv⟩ := hs0.val
  subst hv
  obtain ⟨a1, c1, hv⟩ := hl.val
  subst hv
  simp (maxSteps := 1000000) (disch := first | decide | omega | (simp only [go_sem]; first | done | omega)) only [go_sem, Int.reduceToNat, Nat.reduceMul, Nat.reduceAdd, Nat.reduceSub, ↓EU_region, ↓EU_draw, awake_ev]
  by_cases q1 : ld0.length < 1
  · have d1 : decide ((ld0.length : Int) < 1) = true := decide_eq_true (by omega)
    simp (maxSteps := 1000000) (disch := first | decide | omega | (simp only [go_sem]; first | done | omega)) only [go_sem, Int.reduceToNat, Nat.reduceMul, Nat.reduceAdd, Nat.reduceSub, ↓EU_region, ↓EU_draw, d1]
  have d1 : decide ((ld0.length : Int) < 1) = false := decide_eq_false (by omega)
  by_cases q2 : 16 < ld0.length
  · have d2 : decide (16 < (ld0.length : Int)) = true := decide_eq_true (by omega)
    simp (maxSteps := 1000000) (disch := first | decide | omega | (simp only [go_sem]; first | done | omega)) only [go_sem, Int.reduceToNat, Nat.reduceMul, Nat.reduceAdd, Nat.reduceSub, ↓EU_region, ↓EU_draw, d1, d2]
  have d2 : decide (16 < (ld0.length : Int)) = false := decide_eq_false (by omega)
  by_cases q3 : 12 < l.length
  · have d3 : decide (12 < (l.length : Int)) = true := decide_eq_true (by omega)
    simp (maxSteps := 1000000) (disch := first | decide | omega | (simp only [go_sem]; first | done | omega)) only [go_sem, Int.reduceToNat, Nat.reduceMul, Nat.reduceAdd, Nat.reduceSub, ↓EU_region, ↓EU_draw, d1, d2, d3]
  have d3 : decide (12 < (l.length : Int)) = false := decide_eq_false (by omega)
  generalize hn : ld0.length = n at *
  have hw3 : decide (0 ≤ (n : Int)) = true := decide_eq_true (by omega)
  have hw4 : decide ((n : Int) ≤ (n : Int)) = true := decide_eq_true (by omega)
  have hnN : Nat.ble (n * 8) 1099511627776 = true := Nat.ble_eq_true_of_le (by omega)
  have hnN2 : Nat.ble n 1099511627776 = true := Nat.ble_eq_true_of_le (by omega)
  have ho0 := OW.lit (e := intE .i64) i64_len h00 (List.replicate n 0)
  rw [List.length_replicate, ← zeroRow_i64] at ho0
  simp (maxSteps := 1000000) (disch := first | decide | omega | (simp only [go_sem]; first | done | omega)) only [go_sem, Int.reduceToNat, Nat.reduceMul, Nat.reduceAdd, Nat.reduceSub, ↓EU_region, ↓EU_draw, d1, d2, d3, hw3, hw4, hnN, hnN2]
  have x1 : Ext h00 (h00.push (.cells (zeroRow [.int .i64 0] n) 1)) := (Ext.refl h00).push _
  generalize h00.push (.cells (zeroRow [.int .i64 0] n) 1) = h1 at *
  repeat refine WPo_ob ?_
  refine (LP_rule (fun m st => ∃ (i : Nat) (tm : Fr) (h' : Heap) (at' : List Int), st = ⟨tm, h', []⟩ ∧ m = l.length - i ∧ i ≤ l.length ∧ Fr.get tm 0 = .slice a0 n c0 ∧ Fr.get tm 1 = .slice a1 l.length c1 ∧ Fr.get tm 5 = .slice (some ⟨h00.next, 0, none⟩) n (2 * n + 1) ∧ Fr.get tm 6 = .int .i64 (i : Int) ∧ AT n l i at' ∧ (∀ (j : Nat) (t : Tk), j < i → l[j]? = some t → TkOk n t ∧ hasI t.mask t.core = true) ∧ OW (intE .i64) 1 h' (.slice (some ⟨h00.next, 0, none⟩) n (2 * n + 1)) at' ∧ Ext h00 h')
    (fun q => ∃ (tm : Fr) (h' : Heap), q.2 = ⟨tm, h', []⟩ ∧ ((q.1 = .exit 0 ∧ Fr.get tm 0 = .slice a0 n c0 ∧ Fr.get tm 1 = .slice a1 l.length c1 ∧ Fr.get tm 5 = .slice (some ⟨h00.next, 0, none⟩) n (2 * n + 1) ∧ Ext h00 h' ∧ ∃ at', AT n l l.length at' ∧ (∀ (j : Nat) (t : Tk), l[j]? = some t → TkOk n t ∧ hasI t.mask t.core = true) ∧ OW (intE .i64) 1 h' (.slice (some ⟨h00.next, 0, none⟩) n (2 * n + 1)) at') ∨ (q.1 = .ret ∧ Fr.get tm 4 = .bool true))) ?_ l.length _ _ ?_ ?_).mono ?_
  · rintro m _ ⟨i, tm, h', at', rfl, rfl, hi, g0, g1, g5, g6, A, ok, o5, xx⟩
    by_cases q : i < l.length
    · have dd : decide ((i : Int) < l.length) = true := decide_eq_true (by omega)
      obtain ⟨x, hx⟩ : ∃ x, l[i]? = some x := ⟨_, List.getElem?_eq_getElem q⟩
      obtain ⟨b, o, c', e, hb', hrd, hr⟩ := (hl.ext xx).at hx rfl
      cases e
      have r1 := hr 1 _ rfl
      have r2 := hr 2 _ rfl
      have r3 := hr 3 _ rfl
      have hM := (wl x (List.mem_of_getElem? hx)).2.2.2
      have hwi : wrapF .i64 ((i : Int) + 1) = ((i + 1 : Nat) : Int) := by rw [wrap64 (by omega)]; rfl
      by_cases e1 : x.w < 1
      · have f1 : decide (x.w < 1) = true := decide_eq_true e1
        simp (maxSteps := 1000000) (disch := first | decide | omega | (simp only [go_sem]; first | done | omega)) only [go_sem, Int.reduceToNat, Nat.reduceMul, Nat.reduceAdd, Nat.reduceSub, ↓EU_region, ↓EU_draw, g0, g1, g6, dd, r1, f1]
        exact ⟨_, h', rfl, .inr ⟨trivial, by simp (maxSteps := 1000000) (disch := first | decide | omega | (simp only [go_sem]; first | done | omega)) only [go_sem, Int.reduceToNat, Nat.reduceMul, Nat.reduceAdd, Nat.reduceSub, ↓EU_region, ↓EU_draw]⟩⟩
      have f1 : decide (x.w < 1) = false := decide_eq_false e1
      by_cases e2 : 20 < x.w
      · have f2 : decide (20 < x.w) = true := decide_eq_true e2
        simp (maxSteps := 1000000) (disch := first | decide | omega | (simp only [go_sem]; first | done | omega)) only [go_sem, Int.reduceToNat, Nat.reduceMul, Nat.reduceAdd, Nat.reduceSub, ↓EU_region, ↓EU_draw, g0, g1, g6, dd, r1, f1, f2]
        exact ⟨_, h', rfl, .inr ⟨trivial, by simp (maxSteps := 1000000) (disch := first | decide | omega | (simp only [go_sem]; first | done | omega)) only [go_sem, Int.reduceToNat, Nat.reduceMul, Nat.reduceAdd, Nat.reduceSub, ↓EU_region, ↓EU_draw]⟩⟩
      have f2 : decide (20 < x.w) = false := decide_eq_false e2
      by_cases e3 : x.core < 0
      · have f3 : decide (x.core < 0) = true := decide_eq_true e3
        simp (maxSteps := 1000000) (disch := first | decide | omega | (simp only [go_sem]; first | done | omega)) only [go_sem, Int.reduceToNat, Nat.reduceMul, Nat.reduceAdd, Nat.reduceSub, ↓EU_region, ↓EU_draw, g0, g1, g6, dd, r1, r2, f1, f2, f3]
        exact ⟨_, h', rfl, .inr ⟨trivial, by simp (maxSteps := 1000000) (disch := first | decide | omega | (simp only [go_sem]; first | done | omega)) only [go_sem, Int.reduceToNat, Nat.reduceMul, Nat.reduceAdd, Nat.reduceSub, ↓EU_region, ↓EU_draw]⟩⟩
      have f3 : decide (x.core < 0) = false := decide_eq_false e3
      by_cases e4 : (n : Int) ≤ x.core
      · have f4 : decide ((n : Int) ≤ x.core) = true := decide_eq_true e4
        simp (maxSteps := 1000000) (disch := first | decide | omega | (simp only [go_sem]; first | done | omega)) only [go_sem, Int.reduceToNat, Nat.reduceMul, Nat.reduceAdd, Nat.reduceSub, ↓EU_region, ↓EU_draw, g0, g1, g6, dd, r1, r2, f1, f2, f3, f4]
        exact ⟨_, h', rfl, .inr ⟨trivial, by simp (maxSteps := 1000000) (disch := first | decide | omega | (simp only [go_sem]; first | done | omega)) only [go_sem, Int.reduceToNat, Nat.reduceMul, Nat.reduceAdd, Nat.reduceSub, ↓EU_region, ↓EU_draw]⟩⟩
      have f4 : decide ((n : Int) ≤ x.core) = false := decide_eq_false e4
      have hh := has_ev x.mask hM x.core h'
      cases e5 : hasI x.mask x.core with
      | false =>
        rw [e5] at hh
        simp (maxSteps := 1000000) (disch := first | decide | omega | (simp only [go_sem]; first | done | omega)) only [go_sem, Int.reduceToNat, Nat.reduceMul, Nat.reduceAdd, Nat.reduceSub, ↓EU_region, ↓EU_draw, g0, g1, g6, dd, r1, r2, r3, f1, f2, f3, f4, hh]
        exact ⟨_, h', rfl, .inr ⟨trivial, by simp (maxSteps := 1000000) (disch := first | decide | omega | (simp only [go_sem]; first | done | omega)) only [go_sem, Int.reduceToNat, Nat.reduceMul, Nat.reduceAdd, Nat.reduceSub, ↓EU_region, ↓EU_draw]⟩⟩
      | true =>
        rw [e5] at hh
        obtain ⟨d, hd⟩ := Int.eq_ofNat_of_zero_le (show 0 ≤ x.core by omega)
        have hlen := A.len
        obtain ⟨B2, p2, cc2, cs2, e, hB2, hc2, hl2, hr2, s1⟩ := o5.put1 d (at'.getD d 0 + x.w) (by omega)
        rw [hlen] at e
        cases e
        rw [Nat.zero_add] at hl2 hr2 s1
        have okx : TkOk n x := ⟨by omega, by omega, by omega, by omega, hM⟩
        have hsg := sumL_ge A.pos (show d < at'.length by omega)
        have hnn := getD_nn A.pos (show d < at'.length by omega)
        have hsm := A.sum
        have hwa : wrapF .i64 (at'.getD d 0 + x.w) = at'.getD d 0 + x.w := wrap64 (by omega)
        have A2 := A.step hx okx hd
        have hnb : b ≠ h00.next := by
          have := hl.lt (i := b) rfl
          omega
        rw [hd] at r2 hh f3 f4
        simp (maxSteps := 1000000) (disch := first | decide | omega | (simp only [go_sem]; first | done | omega)) only [go_sem, Int.reduceToNat, Nat.reduceMul, Nat.reduceAdd, Nat.reduceSub, ↓EU_region, ↓EU_draw, g0, g1, g5, g6, dd, r1, r2, r3, f1, f2, f3, f4, hh, hc2, hr2, hwa, hwi]
        exact ⟨l.length - (i + 1), by omega, i + 1, _, _, at'.set d (at'.getD d 0 + x.w), rfl, rfl, by omega, by simp (maxSteps := 1000000) (disch := first | decide | omega | (simp only [go_sem]; first | done | omega)) only [go_sem, Int.reduceToNat, Nat.reduceMul, Nat.reduceAdd, Nat.reduceSub, ↓EU_region, ↓EU_draw, g0], by simp (maxSteps := 1000000) (disch := first | decide | omega | (simp only [go_sem]; first | done | omega)) only [go_sem, Int.reduceToNat, Nat.reduceMul, Nat.reduceAdd, Nat.reduceSub, ↓EU_region, ↓EU_draw, g1], by simp (maxSteps := 1000000) (disch := first | decide | omega | (simp only [go_sem]; first | done | omega)) only [go_sem, Int.reduceToNat, Nat.reduceMul, Nat.reduceAdd, Nat.reduceSub, ↓EU_region, ↓EU_draw, g5], by simp (maxSteps := 1000000) (disch := first | decide | omega | (simp only [go_sem]; first | done | omega)) only [go_sem, Int.reduceToNat, Nat.reduceMul, Nat.reduceAdd, Nat.reduceSub, ↓EU_region, ↓EU_draw], A2, fun j t hj ht => by
          rcases Nat.lt_succ_iff_lt_or_eq.1 hj with hj | rfl
          · exact ok j t hj ht
          · rw [hx] at ht; cases ht; exact ⟨okx, e5⟩, s1, xx.set _ _ (Nat.le_refl _)⟩
    · have dd : decide ((i : Int) < l.length) = false := decide_eq_false (by omega)
      obtain rfl : i = l.length := by omega
      simp (maxSteps := 1000000) (disch := first | decide | omega | (simp only [go_sem]; first | done | omega)) only [go_sem, Int.reduceToNat, Nat.reduceMul, Nat.reduceAdd, Nat.reduceSub, ↓EU_region, ↓EU_draw, g1, g6, dd]
      exact ⟨_, h', rfl, .inl ⟨trivial, by simp (maxSteps := 1000000) (disch := first | decide | omega | (simp only [go_sem]; first | done | omega)) only [go_sem, Int.reduceToNat, Nat.reduceMul, Nat.reduceAdd, Nat.reduceSub, ↓EU_region, ↓EU_draw, g0], by simp (maxSteps := 1000000) (disch := first | decide | omega | (simp only [go_sem]; first | done | omega)) only [go_sem, Int.reduceToNat, Nat.reduceMul, Nat.reduceAdd, Nat.reduceSub, ↓EU_region, ↓EU_draw, g1], by simp (maxSteps := 1000000) (disch := first | decide | omega | (simp only [go_sem]; first | done | omega)) only [go_sem, Int.reduceToNat, Nat.reduceMul, Nat.reduceAdd, Nat.reduceSub, ↓EU_region, ↓EU_draw, g5], xx, at', A, fun j t hj => ok j t (List.getElem?_eq_some_iff.1 hj).1 hj, o5⟩⟩
  · exact ⟨0, _, h1, List.replicate n 0, rfl, rfl, by omega, by simp (maxSteps := 1000000) (disch := first | decide | omega | (simp only [go_sem]; first | done | omega)) only [go_sem, Int.reduceToNat, Nat.reduceMul, Nat.reduceAdd, Nat.reduceSub, ↓EU_region, ↓EU_draw], by simp (maxSteps := 1000000) (disch := first | decide | omega | (simp only [go_sem]; first | done | omega)) only [go_sem, Int.reduceToNat, Nat.reduceMul, Nat.reduceAdd, Nat.reduceSub, ↓EU_region, ↓EU_draw], by simp (maxSteps := 1000000) (disch := first | decide | omega | (simp only [go_sem]; first | done | omega)) only [go_sem, Int.reduceToNat, Nat.reduceMul, Nat.reduceAdd, Nat.reduceSub, ↓EU_region, ↓EU_draw], by simp (maxSteps := 1000000) (disch := first | decide | omega | (simp only [go_sem]; first | done | omega)) only [go_sem, Int.reduceToNat, Nat.reduceMul, Nat.reduceAdd, Nat.reduceSub, ↓EU_region, ↓EU_draw]; rfl, AT.zero n l, fun j t hj => absurd hj (Nat.not_lt_zero _), ho0, x1⟩
  · omega
  · rintro ⟨_, _⟩ ⟨tm, h', rfl, ⟨rfl, g0, g1, g5, xx, at', A, ok, o5⟩ | ⟨rfl, g4⟩⟩
    · have h2 : l.length < 900000 := by omega
      have hlen := A.len
      have hsane : Sane at' := ⟨by omega, by omega, A.pos, by have := A.sum; omega⟩
      have J : JJ n l (mxL at') at' l := ⟨hlen, rfl, fun i t ht => ⟨(ok i t ht).1, (ok i t ht).2, t, ht, rfl, rfl⟩, hsane, Int.le_refl _, fun c hc => by rw [A.at_ c hc, List.take_length]⟩
      simp (maxSteps := 1000000) (disch := first | decide | omega | (simp only [go_sem]; first | done | omega)) only [go_sem, Int.reduceToNat, Nat.reduceMul, Nat.reduceAdd, Nat.reduceSub, ↓EU_region, ↓EU_draw, g0, g1, g5]
      repeat refine WPo_ob ?_
      refine (even_ev n (mxL at') at' l _ _ h' o5.sl (hl.ext xx) h2 J).mono ?_
      rintro ⟨v7, h2'⟩ ⟨ld', x, J', hm, sx, xe⟩
      simp only at sx xe
      obtain ⟨a7, c7, hv⟩ := sx.val
      subst hv
      have hxl := J'.ll
      have hld := J'.len
      have d4 : decide ((x.length : Int) = l.length) = true := decide_eq_true (by omega)
      have ho0 := OW.lit (e := intE .i64) i64_len h2' (List.replicate n 0)
      rw [List.length_replicate, ← zeroRow_i64] at ho0
      simp (maxSteps := 1000000) (disch := first | decide | omega | (simp only [go_sem]; first | done | omega)) only [go_sem, Int.reduceToNat, Nat.reduceMul, Nat.reduceAdd, Nat.reduceSub, ↓EU_region, ↓EU_draw, g0, g1, d4, hw3, hw4, hnN, hnN2]
      have x0' : Ext h00 h2' := xx.trans xe
      have x1' : Ext h2' (h2'.push (.cells (zeroRow [.int .i64 0] n) 1)) := (Ext.refl h2').push _
      generalize hg : h2'.push (.cells (zeroRow [.int .i64 0] n) 1) = h3 at *
      repeat refine WPo_ob ?_
      refine (LP_rule (fun m st => ∃ (i : Nat) (tm : Fr) (h' : Heap) (now : List Int), st = ⟨tm, h', []⟩ ∧ m = x.length - i ∧ i ≤ x.length ∧ Fr.get tm 0 = .slice a0 n c0 ∧ Fr.get tm 1 = .slice a1 l.length c1 ∧ Fr.get tm 5 = .slice (some ⟨h00.next, 0, none⟩) n (2 * n + 1) ∧ Fr.get tm 7 = .slice a7 x.length c7 ∧ Fr.get tm 8 = .slice (some ⟨h2'.next, 0, none⟩) n (2 * n + 1) ∧ Fr.get tm 9 = .int .i64 (i : Int) ∧ AT n x i now ∧ OW (intE .i64) 1 h' (.slice (some ⟨h2'.next, 0, none⟩) n (2 * n + 1)) now ∧ Ext h2' h')
        (fun q => ∃ (tm : Fr) (h' : Heap), q.2 = ⟨tm, h', []⟩ ∧ q.1 = .exit 2 ∧ Fr.get tm 5 = .slice (some ⟨h00.next, 0, none⟩) n (2 * n + 1) ∧ Fr.get tm 7 = .slice a7 x.length c7 ∧ Fr.get tm 8 = .slice (some ⟨h2'.next, 0, none⟩) n (2 * n + 1) ∧ Ext h2' h' ∧ ∃ now, AT n x x.length now ∧ OW (intE .i64) 1 h' (.slice (some ⟨h2'.next, 0, none⟩) n (2 * n + 1)) now) ?_ x.length _ _ ?_ ?_).mono ?_
      · rintro m _ ⟨i, tm, h', now, rfl, rfl, hi, g0, g1, g5, g7, g8, g9, A', o8, xx'⟩
        by_cases q : i < x.length
        · have dd : decide ((i : Int) < x.length) = true := decide_eq_true (by omega)
          obtain ⟨t, ht⟩ : ∃ t, x[i]? = some t := ⟨_, List.getElem?_eq_getElem q⟩
          obtain ⟨okt, hht, t0, ht0, ei, ew⟩ := J'.tk i t ht
          obtain ⟨b, o, c', e, hb', hrd, hr⟩ := (sx.ext xx').at ht rfl
          cases e
          obtain ⟨b2, o2, c2', e, hb2', hrd2, hr2⟩ := (hl.ext (x0'.trans xx')).at ht0 rfl
          cases e
          have r0 := hr 0 _ rfl
          have r1 := hr 1 _ rfl
          have r2 := hr 2 _ rfl
          have r3 := hr 3 _ rfl
          have s0 := hr2 0 _ rfl
          have s1 := hr2 1 _ rfl
          rw [Nat.add_zero] at r0 s0
          rw [← ei] at s0
          rw [← ew] at s1
          obtain ⟨w1, w20, k0, k1, hM⟩ := okt
          have hwi : wrapF .i64 ((i : Int) + 1) = ((i + 1 : Nat) : Int) := by rw [wrap64 (by omega)]; rfl
          have hh := has_ev t.mask hM t.core h'
          rw [hht] at hh
          obtain ⟨d, hd⟩ := Int.eq_ofNat_of_zero_le k0
          have f3 : decide (t.core < 0) = false := decide_eq_false (by omega)
          have f4 : decide ((n : Int) ≤ t.core) = false := decide_eq_false (by omega)
          have f5 : decide (t.id = t.id) = true := decide_eq_true rfl
          have f6 : decide (t.w = t.w) = true := decide_eq_true rfl
          have hlen' := A'.len
          obtain ⟨B2, p2, cc2, cs2, e, hB2, hc2, hl2, hr2', s2⟩ := o8.put1 d (now.getD d 0 + t.w) (by omega)
          rw [hlen'] at e
          cases e
          rw [Nat.zero_add] at hl2 hr2' s2
          have hsg := sumL_ge A'.pos (show d < now.length by omega)
          have hnn := getD_nn A'.pos (show d < now.length by omega)
          have hsm := A'.sum
          have hwa : wrapF .i64 (now.getD d 0 + t.w) = now.getD d 0 + t.w := wrap64 (by omega)
          have A2 := A'.step ht ⟨w1, w20, k0, k1, hM⟩ hd
          rw [hd] at r2 hh f3 f4
          simp (maxSteps := 1000000) (disch := first | decide | omega | (simp only [go_sem]; first | done | omega)) only [go_sem, Int.reduceToNat, Nat.reduceMul, Nat.reduceAdd, Nat.reduceSub, ↓EU_region, ↓EU_draw, g0, g1, g5, g7, g8, g9, dd, r0, r1, r2, r3, s0, s1, f3, f4, f5, f6, hh, hc2, hr2', hwa, hwi]
          exact ⟨x.length - (i + 1), by omega, i + 1, _, _, now.set d (now.getD d 0 + t.w), rfl, rfl, by omega, by simp (maxSteps := 1000000) (disch := first | decide | omega | (simp only [go_sem]; first | done | omega)) only [go_sem, Int.reduceToNat, Nat.reduceMul, Nat.reduceAdd, Nat.reduceSub, ↓EU_region, ↓EU_draw, g0], by simp (maxSteps := 1000000) (disch := first | decide | omega | (simp only [go_sem]; first | done | omega)) only [go_sem, Int.reduceToNat, Nat.reduceMul, Nat.reduceAdd, Nat.reduceSub, ↓EU_region, ↓EU_draw, g1], by simp (maxSteps := 1000000) (disch := first | decide | omega | (simp only [go_sem]; first | done | omega)) only [go_sem, Int.reduceToNat, Nat.reduceMul, Nat.reduceAdd, Nat.reduceSub, ↓EU_region, ↓EU_draw, g5], by simp (maxSteps := 1000000) (disch := first | decide | omega | (simp only [go_sem]; first | done | omega)) only [go_sem, Int.reduceToNat, Nat.reduceMul, Nat.reduceAdd, Nat.reduceSub, ↓EU_region, ↓EU_draw, g7], by simp (maxSteps := 1000000) (disch := first | decide | omega | (simp only [go_sem]; first | done | omega)) only [go_sem, Int.reduceToNat, Nat.reduceMul, Nat.reduceAdd, Nat.reduceSub, ↓EU_region, ↓EU_draw, g8], by simp (maxSteps := 1000000) (disch := first | decide | omega | (simp only [go_sem]; first | done | omega)) only [go_sem, Int.reduceToNat, Nat.reduceMul, Nat.reduceAdd, Nat.reduceSub, ↓EU_region, ↓EU_draw], A2, s2, xx'.set _ _ (Nat.le_refl _)⟩
        · have dd : decide ((i : Int) < x.length) = false := decide_eq_false (by omega)
          obtain rfl : i = x.length := by omega
          simp (maxSteps := 1000000) (disch := first | decide | omega | (simp only [go_sem]; first | done | omega)) only [go_sem, Int.reduceToNat, Nat.reduceMul, Nat.reduceAdd, Nat.reduceSub, ↓EU_region, ↓EU_draw, g7, g9, dd]
          exact ⟨_, h', rfl, trivial, by simp (maxSteps := 1000000) (disch := first | decide | omega | (simp only [go_sem]; first | done | omega)) only [go_sem, Int.reduceToNat, Nat.reduceMul, Nat.reduceAdd, Nat.reduceSub, ↓EU_region, ↓EU_draw, g5], by simp (maxSteps := 1000000) (disch := first | decide | omega | (simp only [go_sem]; first | done | omega)) only [go_sem, Int.reduceToNat, Nat.reduceMul, Nat.reduceAdd, Nat.reduceSub, ↓EU_region, ↓EU_draw, g7], by simp (maxSteps := 1000000) (disch := first | decide | omega | (simp only [go_sem]; first | done | omega)) only [go_sem, Int.reduceToNat, Nat.reduceMul, Nat.reduceAdd, Nat.reduceSub, ↓EU_region, ↓EU_draw, g8], xx', now, A', o8⟩
      · exact ⟨0, _, h3, List.replicate n 0, rfl, rfl, by omega, by simp (maxSteps := 1000000) (disch := first | decide | omega | (simp only [go_sem]; first | done | omega)) only [go_sem, Int.reduceToNat, Nat.reduceMul, Nat.reduceAdd, Nat.reduceSub, ↓EU_region, ↓EU_draw, g0], by simp (maxSteps := 1000000) (disch := first | decide | omega | (simp only [go_sem]; first | done | omega)) only [go_sem, Int.reduceToNat, Nat.reduceMul, Nat.reduceAdd, Nat.reduceSub, ↓EU_region, ↓EU_draw, g1], by simp (maxSteps := 1000000) (disch := first | decide | omega | (simp only [go_sem]; first | done | omega)) only [go_sem, Int.reduceToNat, Nat.reduceMul, Nat.reduceAdd, Nat.reduceSub, ↓EU_region, ↓EU_draw, g5], by simp (maxSteps := 1000000) (disch := first | decide | omega | (simp only [go_sem]; first | done | omega)) only [go_sem, Int.reduceToNat, Nat.reduceMul, Nat.reduceAdd, Nat.reduceSub, ↓EU_region, ↓EU_draw], by simp (maxSteps := 1000000) (disch := first | decide | omega | (simp only [go_sem]; first | done | omega)) only [go_sem, Int.reduceToNat, Nat.reduceMul, Nat.reduceAdd, Nat.reduceSub, ↓EU_region, ↓EU_draw], by simp (maxSteps := 1000000) (disch := first | decide | omega | (simp only [go_sem]; first | done | omega)) only [go_sem, Int.reduceToNat, Nat.reduceMul, Nat.reduceAdd, Nat.reduceSub, ↓EU_region, ↓EU_draw]; rfl, AT.zero n x, ho0, x1'⟩
      · omega
      · rintro ⟨_, _⟩ ⟨tm, h4, rfl, rfl, g5, g7, g8, xx', now, A', o8⟩
        have hlen' := A'.len
        have enow : now = ld' := ext_getD (by omega) fun c hc => by rw [A'.at_ c (by omega), List.take_length, J'.sums c (by omega)]
        subst enow
        simp (maxSteps := 1000000) (disch := first | decide | omega | (simp only [go_sem]; first | done | omega)) only [go_sem, Int.reduceToNat, Nat.reduceMul, Nat.reduceAdd, Nat.reduceSub, ↓EU_region, ↓EU_draw, g7, g8]
        repeat refine WPo_ob ?_
        refine (moveT_ev now x _ _ h4 o8.sl (sx.ext xx') J'.sane (fun t ht => by
          obtain ⟨i, hi⟩ := List.mem_iff_getElem?.1 ht
          rw [hlen']; exact (J'.tk i t hi).1) (by omega)).mono ?_
        rintro ⟨v, h5⟩ ⟨ra, rb, e, x5⟩
        simp only at e x5
        subst e
        rw [hm, show (none : Option (Nat × Nat)).isSome = false from rfl]
        have o5' := ((o5.ext xe).ext xx').ext x5
        have m1 := most_ev at' _ h5 o5'.sl (by omega) (by omega)
        have o8' := o8.ext x5
        have m2 := most_ev now _ h5 o8'.sl (by omega) (by omega)
        have t1 := topN_lt hsane.len
        have t2 := topN_lt J'.sane.len
        have u1 : decide (0 ≤ (topN at' : Int)) = true := decide_eq_true (by omega)
        have u2 : decide ((topN at' : Int) < n) = true := decide_eq_true (by omega)
        have u3 : decide (0 ≤ (topN now : Int)) = true := decide_eq_true (by omega)
        have u4 : decide ((topN now : Int) < n) = true := decide_eq_true (by omega)
        obtain ⟨b1, p1, k1, e, _, hr1⟩ := o5'.sl.acc (by omega)
        rw [hlen] at e
        cases e
        obtain ⟨b2, p2, k2, e, _, hr2⟩ := o8'.sl.acc (by omega)
        rw [hlen'] at e
        cases e
        have v1 := hr1 h5 (Ext.refl _) (topN at') _ (topN_at at' hsane.len).1
        have v2 := hr2 h5 (Ext.refl _) (topN now) _ (topN_at now J'.sane.len).1
        rw [Nat.zero_add] at v1 v2
        have u5 : decide (mxN now now.length ≤ mxN at' at'.length) = true := decide_eq_true J'.top
        simp (maxSteps := 1000000) (disch := first | decide | omega | (simp only [go_sem]; first | done | omega)) only [go_sem, Int.reduceToNat, Nat.reduceMul, Nat.reduceAdd, Nat.reduceSub, ↓EU_region, ↓EU_draw, g5, g8, m1, m2, u1, u2, u3, u4, v1, v2, u5]
    · simp (maxSteps := 1000000) (disch := first | decide | omega | (simp only [go_sem]; first | done | omega)) only [go_sem, Int.reduceToNat, Nat.reduceMul, Nat.reduceAdd, Nat.reduceSub, ↓EU_region, ↓EU_draw, g4]
end Go.Proofs.Ytnopeboieicipaa.EV
