/- Contracts: queues: New, less, swap. No condition. -/
import Derived.Test.YtbbdhpjkibbnkaaO0
import Derived.Test.YtbbdhpjkibbnkaaMap
import Derived.Test.YtbbdhpjkibbnkaaClr
import Derived.Test.YtbbdhpjkibbnkaaQuo
namespace Go.Proofs.Ytbbdhpjkibbnkaa.EV
open Go Go.Proofs
set_option linter.unusedVariables false
set_option linter.unusedSimpArgs false
set_option maxRecDepth 100000
set_option pp.deepTerms false
set_option pp.deepTerms.threshold 20
structure QI where
  key : Int
  id : Int
deriving DecidableEq, Inhabited
noncomputable def qE (x : QI) : List Value := [.int .i64 x.key, .int .i64 x.id]
theorem qE_len (x : QI) : (qE x).length = 2 := rfl
theorem qE_scal (x : QI) : (qE x).all scal = true := rfl
noncomputable def cmpI (a b : Int) : Int := if a < b then -1 else if b < a then 1 else 0
noncomputable def cmpQ (x y : QI) : Int := if cmpI x.key y.key = 0 then cmpI x.id y.id else cmpI x.key y.key
noncomputable def ltQ (x y : QI) : Prop := x.key < y.key ∨ (x.key = y.key ∧ x.id < y.id)
instance (x y : QI) : Decidable (ltQ x y) := by unfold ltQ; infer_instance
theorem cmpI_cases (x y : Int) : (x < y ∧ cmpI x y = -1) ∨ (x = y ∧ cmpI x y = 0) ∨ (y < x ∧ cmpI x y = 1) := by
  unfold cmpI
  by_cases h1 : x < y
  · exact .inl ⟨h1, by rw [if_pos h1]⟩
  · by_cases h2 : y < x
    · exact .inr (.inr ⟨h2, by rw [if_neg h1, if_pos h2]⟩)
    · exact .inr (.inl ⟨by omega, by rw [if_neg h1, if_neg h2]⟩)
theorem cmpQ_lt (x y : QI) : decide (cmpQ x y < 0) = decide (ltQ x y) := by
  rw [decide_eq_decide]
  unfold cmpQ ltQ
  rcases cmpI_cases x.key y.key with ⟨h1, e1⟩ | ⟨h1, e1⟩ | ⟨h1, e1⟩ <;> rcases cmpI_cases x.id y.id with ⟨h2, e2⟩ | ⟨h2, e2⟩ | ⟨h2, e2⟩ <;> rw [e1, e2] <;> simp <;> omega
theorem cmp64_ev (a b : Int) (h : Heap) : EF Try.prog O0 25 [.int .i64 a, .int .i64 b] h = some (.int .i64 (cmpI a b), h) := by
  have : WPo (EF Try.prog O0 25 [.int .i64 a, .int .i64 b] h) fun q => q = (.int .i64 (cmpI a b), h) := by
    have hn : ∀ (x : Int) (h : Heap), EF Try.prog O0 36 [.int .i64 x] h = some (.bool false, h) := fun x h => by
      have : WPo (EF Try.prog O0 36 [.int .i64 x] h) fun q => q = (.bool false, h) := by
        rw [EF_body (O := O0) (by kernel_rfl) Try.func36 rfl (rs := [.tmp 2]) rfl (bad := []) (by kernel_rfl) _ _ (m := 6) rfl]
        have dt : decide (x = x) = true := decide_eq_true rfl
        simp (maxSteps := 1000000) (disch := first | decide | omega | (simp only [go_sem]; first | done | omega)) only [go_sem, Int.reduceToNat, Nat.reduceMul, Nat.reduceAdd, Nat.reduceSub, ↓EU_region, ↓EU_draw, dec_t, dec_f, dt]
      obtain ⟨q, e, rfl⟩ := this
      exact e
    rw [EF_body (O := O0) (by kernel_rfl) Try.func25 rfl (rs := [.tmp 4]) rfl (bad := []) (by kernel_rfl) _ _ (m := 20) rfl]
    rcases cmpI_cases a b with ⟨h1, e1⟩ | ⟨h1, e1⟩ | ⟨h1, e1⟩
    · have d1 : decide (a < b) = true := decide_eq_true h1
      simp (maxSteps := 1000000) (disch := first | decide | omega | (simp only [go_sem]; first | done | omega)) only [go_sem, Int.reduceToNat, Nat.reduceMul, Nat.reduceAdd, Nat.reduceSub, ↓EU_region, ↓EU_draw, hn, d1, e1]
    · have d1 : decide (a < b) = false := decide_eq_false (by omega)
      have d2 : decide (a > b) = false := decide_eq_false (by omega)
      simp (maxSteps := 1000000) (disch := first | decide | omega | (simp only [go_sem]; first | done | omega)) only [go_sem, Int.reduceToNat, Nat.reduceMul, Nat.reduceAdd, Nat.reduceSub, ↓EU_region, ↓EU_draw, hn, d1, d2, e1]
    · have d1 : decide (a < b) = false := decide_eq_false (by omega)
      have d2 : decide (a > b) = true := decide_eq_true (by omega)
      simp (maxSteps := 1000000) (disch := first | decide | omega | (simp only [go_sem]; first | done | omega)) only [go_sem, Int.reduceToNat, Nat.reduceMul, Nat.reduceAdd, Nat.reduceSub, ↓EU_region, ↓EU_draw, hn, d1, d2, e1]
  obtain ⟨q, e, rfl⟩ := this
  exact e
theorem cmpint_ev (a b : Int) (h : Heap) : EF Try.prog O0 47 [.int .i64 a, .int .i64 b] h = some (.int .i64 (cmpI a b), h) := by
  have : WPo (EF Try.prog O0 47 [.int .i64 a, .int .i64 b] h) fun q => q = (.int .i64 (cmpI a b), h) := by
    have hn : ∀ (x : Int) (h : Heap), EF Try.prog O0 51 [.int .i64 x] h = some (.bool false, h) := fun x h => by
      have : WPo (EF Try.prog O0 51 [.int .i64 x] h) fun q => q = (.bool false, h) := by
        rw [EF_body (O := O0) (by kernel_rfl) Try.func51 rfl (rs := [.tmp 2]) rfl (bad := []) (by kernel_rfl) _ _ (m := 6) rfl]
        have dt : decide (x = x) = true := decide_eq_true rfl
        simp (maxSteps := 1000000) (disch := first | decide | omega | (simp only [go_sem]; first | done | omega)) only [go_sem, Int.reduceToNat, Nat.reduceMul, Nat.reduceAdd, Nat.reduceSub, ↓EU_region, ↓EU_draw, dec_t, dec_f, dt]
      obtain ⟨q, e, rfl⟩ := this
      exact e
    rw [EF_body (O := O0) (by kernel_rfl) Try.func47 rfl (rs := [.tmp 4]) rfl (bad := []) (by kernel_rfl) _ _ (m := 20) rfl]
    rcases cmpI_cases a b with ⟨h1, e1⟩ | ⟨h1, e1⟩ | ⟨h1, e1⟩
    · have d1 : decide (a < b) = true := decide_eq_true h1
      simp (maxSteps := 1000000) (disch := first | decide | omega | (simp only [go_sem]; first | done | omega)) only [go_sem, Int.reduceToNat, Nat.reduceMul, Nat.reduceAdd, Nat.reduceSub, ↓EU_region, ↓EU_draw, hn, d1, e1]
    · have d1 : decide (a < b) = false := decide_eq_false (by omega)
      have d2 : decide (a > b) = false := decide_eq_false (by omega)
      simp (maxSteps := 1000000) (disch := first | decide | omega | (simp only [go_sem]; first | done | omega)) only [go_sem, Int.reduceToNat, Nat.reduceMul, Nat.reduceAdd, Nat.reduceSub, ↓EU_region, ↓EU_draw, hn, d1, d2, e1]
    · have d1 : decide (a < b) = false := decide_eq_false (by omega)
      have d2 : decide (a > b) = true := decide_eq_true (by omega)
      simp (maxSteps := 1000000) (disch := first | decide | omega | (simp only [go_sem]; first | done | omega)) only [go_sem, Int.reduceToNat, Nat.reduceMul, Nat.reduceAdd, Nat.reduceSub, ↓EU_region, ↓EU_draw, hn, d1, d2, e1]
  obtain ⟨q, e, rfl⟩ := this
  exact e
theorem cmpq_ev (x y : QI) (h : Heap) : Pu (EF Try.prog O0 43 [.agg ⟨qE x⟩, .agg ⟨qE y⟩] h) h (.int .i64 (cmpQ x y)) := by
  unfold Pu qE cmpQ
  rw [EF_body (O := O0) (by kernel_rfl) Try.func43 rfl (rs := [.tmp 4]) rfl (bad := []) (by kernel_rfl) _ _ (m := 19) rfl]
  simp (maxSteps := 1000000) (disch := first | decide | omega | (simp only [go_sem]; first | done | omega)) only [go_sem, Int.reduceToNat, Nat.reduceMul, Nat.reduceAdd, Nat.reduceSub, ↓EU_region, ↓EU_draw, cmp64_ev]
  by_cases q : cmpI x.key y.key = 0
  · have d : decide (cmpI x.key y.key = 0) = true := decide_eq_true q
    rw [if_pos q]
    simp (maxSteps := 1000000) (disch := first | decide | omega | (simp only [go_sem]; first | done | omega)) only [go_sem, Int.reduceToNat, Nat.reduceMul, Nat.reduceAdd, Nat.reduceSub, ↓EU_region, ↓EU_draw, d, cmpint_ev]
    exact ⟨trivial, by repeat (first | exact Ext.refl _ | assumption | refine Ext.push ?_ _ | refine Ext.set ?_ _ _ (by first | omega | (simp only [next_push, next_set]; omega)))⟩
  · have d : decide (cmpI x.key y.key = 0) = false := decide_eq_false q
    rw [if_neg q]
    simp (maxSteps := 1000000) (disch := first | decide | omega | (simp only [go_sem]; first | done | omega)) only [go_sem, Int.reduceToNat, Nat.reduceMul, Nat.reduceAdd, Nat.reduceSub, ↓EU_region, ↓EU_draw, d]
    exact ⟨trivial, by repeat (first | exact Ext.refl _ | assumption | refine Ext.push ?_ _ | refine Ext.set ?_ _ _ (by first | omega | (simp only [next_push, next_set]; omega)))⟩
/-- where each one stands -/
noncomputable def ATL (f : Int → Option Value) (l : List QI) : Prop := ∀ (k : Int) (v : Value), f k = some v ↔ ∃ (n : Nat) (x : QI), l[n]? = some x ∧ x.id = k ∧ v = .int .i64 (n : Int)
structure QR (h : Heap) (b : Nat) (lv : Value) (mb : Nat) (most st : Int) (l : List QI) : Prop where
  bl : b < h.next
  ml : mb < h.next
  ne : b ≠ mb
  nb : ¬ blkOf lv b
  nm : ¬ blkOf lv mb
  cb : h.get b = .cells [.int .i64 most, lv, .map (some mb), .int .i64 st] 0
  ow : OW qE 2 h lv l
  mp : ∃ es clk f, h.get mb = .map es clk ∧ MR es clk f ∧ ATL f l
noncomputable def QS (b : Nat) (lv : Value) (mb : Nat) (i : Nat) : Prop := i = b ∨ i = mb ∨ blkOf lv i
section
variable {h h' : Heap} {b : Nat} {lv : Value} {mb : Nat} {most st : Int} {l : List QI}
theorem QR.ext (q : QR h b lv mb most st l) (x : Ext h h') : QR h' b lv mb most st l := by
  obtain ⟨es, clk, f, h1, h2, h3⟩ := q.mp
  exact ⟨Nat.lt_of_lt_of_le q.bl x.le, Nat.lt_of_lt_of_le q.ml x.le, q.ne, q.nb, q.nm, by rw [x.old _ q.bl]; exact q.cb, q.ow.ext x, es, clk, f, by rw [x.old _ q.ml]; exact h1, h2, h3⟩
theorem QR.modO (q : QR h b lv mb most st l) {S : Nat → Prop} (x : Mod S h h') (hs : ∀ i, QS b lv mb i → ¬ S i) : QR h' b lv mb most st l := by
  obtain ⟨es, clk, f, h1, h2, h3⟩ := q.mp
  exact ⟨Nat.lt_of_lt_of_le q.bl x.le, Nat.lt_of_lt_of_le q.ml x.le, q.ne, q.nb, q.nm, by rw [x.old _ q.bl (hs _ (.inl rfl))]; exact q.cb, q.ow.mod x fun i hi => hs i (.inr (.inr hi)), es, clk, f, by rw [x.old _ q.ml (hs _ (.inr (.inl rfl)))]; exact h1, h2, h3⟩
/-- its four cells turned -/
theorem QR.cells (q : QR h b lv mb most st l) (st' : Int) : QR (h.set b (.cells [.int .i64 most, lv, .map (some mb), .int .i64 st'] 0)) b lv mb most st' l := by
  obtain ⟨es, clk, f, h1, h2, h3⟩ := q.mp
  exact ⟨by rw [next_set]; exact q.bl, by rw [next_set]; exact q.ml, q.ne, q.nb, q.nm, get_set_same _ _ _, q.ow.mod (Mod.set (S := fun j => j = b) (Mod.refl _ _) _ _ (fun _ => rfl)) (fun j hj e => q.nb (e ▸ hj)), es, clk, f, by rw [get_set_ne _ (fun e => q.ne e.symm)]; exact h1, h2, h3⟩
theorem QR.at (q : QR h b lv mb most st l) {i : Nat} {x : QI} (hx : l[i]? = some x) : ∃ B o c, lv = .slice (some ⟨B, o, none⟩) l.length c ∧ B < h.next ∧ rdc (h.get B) (o + i * 2) 2 = some [.int .i64 x.key, .int .i64 x.id] := by
  obtain ⟨B, o, c, h1, h2, h3, _⟩ := q.ow.sl.at hx rfl
  exact ⟨B, o, c, h1, h2, h3⟩
end
theorem less_ev {h : Heap} {b : Nat} {lv : Value} {mb : Nat} {most st : Int} {l : List QI} (q : QR h b lv mb most st l) {i j : Nat} {x y : QI} (hx : l[i]? = some x) (hy : l[j]? = some y) (hl : l.length < 900000) :
    WPo (EF Try.prog O0 40 [ptr b 0, .int .i64 (i : Int), .int .i64 (j : Int)] h) fun r => r.1 = .bool (decide (ltQ x y)) ∧ QR r.2 b lv mb most (wrapF .i64 (st + 1)) l ∧ Mod (fun i => i = b) h r.2 := by
  rw [EF_body (O := O0) (by kernel_rfl) Try.func40 rfl (rs := [.tmp 6]) rfl (bad := []) (by kernel_rfl) _ _ (m := 30) rfl]
  have hi := (List.getElem?_eq_some_iff.1 hx).1
  have hj := (List.getElem?_eq_some_iff.1 hy).1
  have q2 := q.cells (wrapF .i64 (st + 1))
  obtain ⟨B, o, c, rfl, hB, r1⟩ := q2.at hx
  obtain ⟨B', o', c', e, _, r2⟩ := q2.at hy
  cases e
  have cb := q.cb
  have d1 : decide ((i : Int) < (l.length : Int)) = true := decide_eq_true (by omega)
  have d2 : decide ((j : Int) < (l.length : Int)) = true := decide_eq_true (by omega)
  have m1 : Mod (fun i => i = b) h (h.set b (.cells [.int .i64 most, .slice (some ⟨B, o, none⟩) l.length c, .map (some mb), .int .i64 (wrapF .i64 (st + 1))] 0)) := (Mod.refl _ _).set _ _ fun _ => rfl
  have cb1 := q2.cb
  simp (maxSteps := 1000000) (disch := first | decide | omega | (simp only [go_sem]; first | done | omega)) only [go_sem, Int.reduceToNat, Nat.reduceMul, Nat.reduceAdd, Nat.reduceSub, ↓EU_region, ↓EU_draw, cb]
  generalize h.set b (.cells [.int .i64 most, .slice (some ⟨B, o, none⟩) l.length c, .map (some mb), .int .i64 (wrapF .i64 (st + 1))] 0) = h1 at *
  have hc := cmpq_ev x y h1
  unfold qE at hc
  simp (maxSteps := 1000000) (disch := first | decide | omega | (simp only [go_sem]; first | done | omega)) only [go_sem, Int.reduceToNat, Nat.reduceMul, Nat.reduceAdd, Nat.reduceSub, ↓EU_region, ↓EU_draw, r1, cb1, d2, r2]
  repeat refine WPo_ob ?_
  refine hc.bind fun h2 x2 => ?_
  simp (maxSteps := 1000000) (disch := first | decide | omega | (simp only [go_sem]; first | done | omega)) only [go_sem, Int.reduceToNat, Nat.reduceMul, Nat.reduceAdd, Nat.reduceSub, ↓EU_region, ↓EU_draw, cmpQ_lt]
  exact ⟨trivial, q2.ext x2, m1.trans (x2.mod _)⟩
noncomputable def swapL (l : List QI) (i j : Nat) (x y : QI) : List QI := (l.set i y).set j x
theorem swapL_len (l : List QI) (i j : Nat) (x y : QI) : (swapL l i j x y).length = l.length := by
  unfold swapL
  rw [List.length_set, List.length_set]
theorem swapL_get {l : List QI} {i j : Nat} {x y : QI} (hi : i < l.length) (hj : j < l.length) (n : Nat) : (swapL l i j x y)[n]? = if n = j then some x else if n = i then some y else l[n]? := by
  unfold swapL
  by_cases q : n = j
  · subst q
    rw [if_pos rfl, List.getElem?_set_self (by rw [List.length_set]; exact hj)]
  · rw [if_neg q, List.getElem?_set_ne (fun e => q e.symm)]
    by_cases r : n = i
    · subst r
      rw [if_pos rfl, List.getElem?_set_self hi]
    · rw [if_neg r, List.getElem?_set_ne (fun e => r e.symm)]
theorem ATL.uniq {f : Int → Option Value} {l : List QI} (a : ATL f l) {n m : Nat} {x y : QI} (hx : l[n]? = some x) (hy : l[m]? = some y) (h : x.id = y.id) : n = m := by
  have h1 := (a x.id (.int .i64 (n : Int))).2 ⟨n, x, hx, rfl, rfl⟩
  have h2 := (a x.id (.int .i64 (m : Int))).2 ⟨m, y, hy, h.symm, rfl⟩
  rw [h1] at h2
  injection h2 with h2
  injection h2 with _ h2
  omega
theorem ATL.swap {f : Int → Option Value} {l : List QI} (a : ATL f l) {i j : Nat} {x y : QI} (hx : l[i]? = some x) (hy : l[j]? = some y) : ATL (upd (upd f y.id (some (.int .i64 (i : Int)))) x.id (some (.int .i64 (j : Int)))) (swapL l i j x y) := by
  have hi := (List.getElem?_eq_some_iff.1 hx).1
  have hj := (List.getElem?_eq_some_iff.1 hy).1
  have hg := swapL_get (x := x) (y := y) hi hj
  intro k v
  unfold upd
  by_cases q : k = x.id
  · rw [if_pos q]
    constructor
    · intro e
      cases e
      exact ⟨j, x, by rw [hg, if_pos rfl], q.symm, rfl⟩
    · rintro ⟨n, z, h1, h2, rfl⟩
      rw [hg] at h1
      by_cases r : n = j
      · rw [r]
      · rw [if_neg r] at h1
        by_cases t : n = i
        · rw [if_pos t] at h1
          cases h1
          exact absurd (t.trans (a.uniq hx hy (by omega))) r
        · rw [if_neg t] at h1
          exact absurd (a.uniq h1 hx (by omega)) t
  · rw [if_neg q]
    by_cases p : k = y.id
    · rw [if_pos p]
      have hij : i ≠ j := fun e => by
        subst e
        rw [hx] at hy
        cases hy
        exact q p
      constructor
      · intro e
        cases e
        exact ⟨i, y, by rw [hg, if_neg hij, if_pos rfl], p.symm, rfl⟩
      · rintro ⟨n, z, h1, h2, rfl⟩
        rw [hg] at h1
        by_cases r : n = j
        · rw [if_pos r] at h1
          cases h1
          exact absurd h2.symm q
        · rw [if_neg r] at h1
          by_cases t : n = i
          · rw [t]
          · rw [if_neg t] at h1
            exact absurd (a.uniq h1 hy (by omega)) r
    · rw [if_neg p, a k v]
      constructor
      · rintro ⟨n, z, h1, h2, h3⟩
        refine ⟨n, z, ?_, h2, h3⟩
        have r : n ≠ j := fun e => by
          subst e
          rw [h1] at hy
          cases hy
          exact p h2.symm
        have t : n ≠ i := fun e => by
          subst e
          rw [h1] at hx
          cases hx
          exact q h2.symm
        rw [hg, if_neg r, if_neg t]
        exact h1
      · rintro ⟨n, z, h1, h2, h3⟩
        rw [hg] at h1
        by_cases r : n = j
        · rw [if_pos r] at h1
          cases h1
          exact absurd h2.symm q
        · rw [if_neg r] at h1
          by_cases t : n = i
          · rw [if_pos t] at h1
            cases h1
            exact absurd h2.symm p
          · rw [if_neg t] at h1
            exact ⟨n, z, h1, h2, h3⟩
theorem swap_ev {h : Heap} {b : Nat} {lv : Value} {mb : Nat} {most st : Int} {l : List QI} (q : QR h b lv mb most st l) {i j : Nat} {x y : QI} (hx : l[i]? = some x) (hy : l[j]? = some y) (hl : l.length < 900000) :
    WPo (EF Try.prog O0 39 [ptr b 0, .int .i64 (i : Int), .int .i64 (j : Int)] h) fun r => QR r.2 b lv mb most st (swapL l i j x y) ∧ Mod (QS b lv mb) h r.2 ∧ r.2.next = h.next := by
  rw [EF_body (O := O0) (by kernel_rfl) Try.func39 rfl (rs := []) rfl (bad := []) (by kernel_rfl) _ _ (m := 62) rfl]
  have hi := (List.getElem?_eq_some_iff.1 hx).1
  have hj := (List.getElem?_eq_some_iff.1 hy).1
  obtain ⟨B, o, c, rfl, hB, r1⟩ := q.at hx
  obtain ⟨B', o', c', e, _, r2⟩ := q.at hy
  cases e
  have cb := q.cb
  have d1 : decide ((i : Int) < (l.length : Int)) = true := decide_eq_true (by omega)
  have d2 : decide ((j : Int) < (l.length : Int)) = true := decide_eq_true (by omega)
  obtain ⟨B', o', c', cs, e, _, hcs, hfit, o1⟩ := q.ow.put qE_len i y hi
  cases e
  have hbB : b ≠ B := fun e => q.nb e.symm
  have hmB : mb ≠ B := fun e => q.nm e.symm
  have w1 : wrc h B (o + i * 2) [.int .i64 y.key, .int .i64 y.id] (h.get B) = some (h.set B (.cells (splice cs (o + i * 2) (qE y)) 2)) := by
    rw [hcs]
    exact wrc_c _ _ _ _ _ _ (by simpa using hfit) rfl
  have m1 : Mod (QS b (.slice (some ⟨B, o, none⟩) l.length c) mb) h (h.set B (.cells (splice cs (o + i * 2) (qE y)) 2)) := (Mod.refl _ _).set _ _ fun _ => .inr (.inr rfl)
  have n1 : (h.set B (.cells (splice cs (o + i * 2) (qE y)) 2)).next = h.next := next_set _ _ _
  have cb1 : (h.set B (.cells (splice cs (o + i * 2) (qE y)) 2)).get b = _ := (get_set_ne _ hbB).trans cb
  have cm1 : (h.set B (.cells (splice cs (o + i * 2) (qE y)) 2)).get mb = h.get mb := get_set_ne _ hmB
  generalize h.set B (.cells (splice cs (o + i * 2) (qE y)) 2) = h1 at *
  obtain ⟨B', o', c', cs2, e, _, hcs2, hfit2, o2⟩ := o1.put qE_len j x (by rw [List.length_set]; exact hj)
  rw [List.length_set] at e
  cases e
  have w2 : wrc h1 B (o + j * 2) [.int .i64 x.key, .int .i64 x.id] (h1.get B) = some (h1.set B (.cells (splice cs2 (o + j * 2) (qE x)) 2)) := by
    rw [hcs2]
    exact wrc_c _ _ _ _ _ _ (by simpa using hfit2) rfl
  have m2 : Mod (QS b (.slice (some ⟨B, o, none⟩) l.length c) mb) h (h1.set B (.cells (splice cs2 (o + j * 2) (qE x)) 2)) := m1.set _ _ fun _ => .inr (.inr rfl)
  have n2 : (h1.set B (.cells (splice cs2 (o + j * 2) (qE x)) 2)).next = h1.next := next_set _ _ _
  have cb2 : (h1.set B (.cells (splice cs2 (o + j * 2) (qE x)) 2)).get b = _ := (get_set_ne _ hbB).trans cb1
  have cm2 : (h1.set B (.cells (splice cs2 (o + j * 2) (qE x)) 2)).get mb = h.get mb := (get_set_ne _ hmB).trans cm1
  generalize h1.set B (.cells (splice cs2 (o + j * 2) (qE x)) 2) = h2 at *
  have o2 : OW qE 2 h2 (.slice (some ⟨B, o, none⟩) l.length c) (swapL l i j x y) := o2
  have gl := swapL_get (x := x) (y := y) hi hj
  have gi : (swapL l i j x y)[i]? = some y := by
    rw [gl]
    by_cases q : i = j
    · subst q
      rw [if_pos rfl]
      rw [hx] at hy; exact hy
    · rw [if_neg q, if_pos rfl]
  have gj : (swapL l i j x y)[j]? = some x := by rw [gl, if_pos rfl]
  have ll := swapL_len l i j x y
  obtain ⟨B', o', c', e, _, _, t1⟩ := o2.sl.at gi rfl
  rw [ll] at e
  cases e
  obtain ⟨B', o', c', e, _, _, t2⟩ := o2.sl.at gj rfl
  rw [ll] at e
  cases e
  have t1 := t1 1 _ rfl
  have t2 := t2 1 _ rfl
  obtain ⟨es, clk, f, hm, mr, at0⟩ := q.mp
  rw [hm] at cm2
  have f1 : f y.id = some (.int .i64 (j : Int)) := (at0 _ _).2 ⟨j, y, hy, rfl, rfl⟩
  obtain ⟨b1, en1, es1⟩ := ent_ok (z := .int .i64 0) cm2 mr f1
  obtain ⟨es1, st1, mr1⟩ := es1 (h2.set mb (.map es clk)) (.int .i64 (i : Int)) (get_set_same _ _ _)
  rw [set_set] at st1
  have f2 : ∃ v, upd f y.id (some (.int .i64 (i : Int))) x.id = some v := by
    unfold upd
    by_cases q : x.id = y.id
    · exact ⟨_, by rw [if_pos q]⟩
    · exact ⟨_, by rw [if_neg q]; exact (at0 _ _).2 ⟨i, x, hx, rfl, rfl⟩⟩
  obtain ⟨v2, f2⟩ := f2
  obtain ⟨b2, en2, es2⟩ := ent_ok (h := h2.set mb (.map es1 clk)) (z := .int .i64 0) (get_set_same _ _ _) mr1 f2
  rw [set_set] at en2
  obtain ⟨es2, st2, mr2⟩ := es2 (h2.set mb (.map es1 clk)) (.int .i64 (j : Int)) (get_set_same _ _ _)
  rw [set_set] at st2
  have cb3 : (h2.set mb (.map es1 clk)).get b = _ := (get_set_ne _ q.ne).trans cb2
  simp (maxSteps := 1000000) (disch := first | decide | omega | (simp only [go_sem]; first | done | omega)) only [go_sem, Int.reduceToNat, Nat.reduceMul, Nat.reduceAdd, Nat.reduceSub, ↓EU_region, ↓EU_draw, cb, r1, r2, d1, d2, w1, w2, cb2, t1, t2, ent_s, est_s, en1, st1, en2, st2, cb3]
  exact ⟨⟨by rw [next_set, n2, n1]; exact q.bl, by rw [next_set, n2, n1]; exact q.ml, q.ne, q.nb, q.nm, (get_set_ne _ q.ne).trans cb2, o2.mod (Mod.set (S := fun j => j = mb) (Mod.refl _ _) _ _ (fun _ => rfl)) (fun j hj e => q.nm (e ▸ hj)), es2, clk, _, get_set_same _ _ _, mr2, at0.swap hx hy⟩, m2.set _ _ (fun _ => .inr (.inl rfl)), by rw [n2, n1]⟩
end Go.Proofs.Ytbbdhpjkibbnkaa.EV
