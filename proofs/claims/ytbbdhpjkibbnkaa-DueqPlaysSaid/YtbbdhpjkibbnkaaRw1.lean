/- Contracts: the reference's rows in order: At, before, Put, Drop. No condition. -/
import Derived.Test.YtbbdhpjkibbnkaaO0
import Derived.Test.YtbbdhpjkibbnkaaSy7
namespace Go.Proofs.Ytbbdhpjkibbnkaa.EV
open Go Go.Proofs
set_option linter.unusedVariables false
set_option linter.unusedSimpArgs false
set_option maxRecDepth 100000
set_option pp.deepTerms false
set_option pp.deepTerms.threshold 20
theorem SL.veq {α : Type} {e : α → List Value} {es : Nat} {h : Heap} {v : Value} {l : List α} (s : SL e es h v l) : veq v v = true := by
  cases s with
  | nil => exact veq_slN _ _
  | mk b o c l cs hb hc hl hx hcap hq => exact veq_slS _ _ _ _
theorem cut_ext {P : Program} {h h' : Heap} {t : TypeId} {b o m c : Nat} {lo hi mx : Option Value} {u : Value} (hg : h'.get b = h.get b) (e : CUT P h t (.slice (some ⟨b, o, none⟩) m c) lo hi mx = some (u, h)) : CUT P h' t (.slice (some ⟨b, o, none⟩) m c) lo hi mx = some (u, h') := by
  rw [CUT_sl] at e ⊢
  cases hs : slT P t with
  | none => rw [hs] at e; cases e
  | some sz =>
    rw [hs, ob_some] at e
    rw [ob_some]
    cases hc : cutEnds m (c / 2) lo hi mx with
    | none => rw [hc] at e; cases e
    | some q =>
      rw [hc, ob_some] at e
      rw [ob_some]
      unfold evCutSl at e ⊢
      rw [hg]
      cases hx : (q.2.2.2 || Nat.beq (c % 2) 1) with
      | true =>
        rw [hx, cnd_true] at e
        rw [cnd_true]
        cases e
        rfl
      | false =>
        rw [hx, cnd_false] at e
        rw [cnd_false]
        cases hk : cellsEs (h.get b) with
        | none => rw [hk] at e; cases e
        | some es =>
          rw [hk, ob_some] at e
          rw [ob_some]
          cases hz : Nat.beq es sz with
          | false => rw [hz] at e; cases e
          | true =>
            rw [hz] at e
            cases e
            rfl
set_option maxHeartbeats 8000000 in
theorem cut_extS {α : Type} {e : α → List Value} {es : Nat} {P : Program} {h h' : Heap} {t : TypeId} {v : Value} {l : List α} {lo hi mx : Option Value} {u : Value} (hs : SL e es h v l) (x : Ext h h') (q : CUT P h t v lo hi mx = some (u, h)) : CUT P h' t v lo hi mx = some (u, h') := by
  cases hs with
  | mk b o c l cs hb hc hl hx hcap hq => exact cut_ext (x.old b hb) q
  | nil =>
    rw [CUT_nil] at q ⊢
    cases hs : slT P t with
    | none => rw [hs] at q; cases q
    | some sz =>
      rw [hs, ob_some] at q
      rw [ob_some]
      cases hc : cutEnds 0 (1 / 2) lo hi mx with
      | none => rw [hc] at q; cases q
      | some r =>
        rw [hc, ob_some] at q
        rw [ob_some]
        cases q
        rfl
structure RI where
  key : Int
  due : Int
  id : Int
noncomputable def rE (x : RI) : List Value := [.int .i64 x.key, .int .i64 x.due, .int .i64 x.id]
theorem rE_len (x : RI) : (rE x).length = 3 := rfl
theorem rE_scal (x : RI) : (rE x).all scal = true := rfl
noncomputable def ltR (x y : RI) : Prop := x.key < y.key ∨ (x.key = y.key ∧ x.id < y.id)
instance (x y : RI) : Decidable (ltR x y) := inferInstanceAs (Decidable (_ ∨ _))
structure RR (h : Heap) (b : Nat) (v : Value) (most : Int) (l : List RI) : Prop where
  bl : b < h.next
  cb : h.get b = .cells [.int .i64 most, v] 0
  ow : OW rE 3 h v l
  ne : ¬ blkOf v b
noncomputable def RS (b : Nat) (v : Value) (i : Nat) : Prop := i = b ∨ blkOf v i
section
variable {h h' : Heap} {b : Nat} {v : Value} {most : Int} {l : List RI}
theorem RR.ext (q : RR h b v most l) (x : Ext h h') : RR h' b v most l :=
  { bl := Nat.lt_of_lt_of_le q.bl x.le, cb := (x.old _ q.bl).trans q.cb, ow := q.ow.ext x, ne := q.ne }
theorem RR.modO (q : RR h b v most l) {S : Nat → Prop} (x : Mod S h h') (hs : ∀ i, RS b v i → ¬ S i) : RR h' b v most l :=
  { bl := Nat.lt_of_lt_of_le q.bl x.le, cb := (x.old _ q.bl (hs _ (.inl rfl))).trans q.cb, ow := q.ow.mod x fun i hi => hs i (.inr hi), ne := q.ne }
theorem RR.blk (q : RR h b v most l) {i : Nat} (hi : RS b v i) : i < h.next := by
  rcases hi with e | e
  · rw [e]; exact q.bl
  · exact q.ow.lt e
end
set_option maxHeartbeats 2000000 in
theorem at_ev {h : Heap} {b : Nat} {v : Value} {most : Int} {l : List RI} (q : RR h b v most l) (id : Int) (hl : l.length < 800000) :
    WPo (EF Try.prog O0 21 [ptr b 0, .int .i64 id] h) fun r => r.2 = h ∧ ((∃ (n : Nat) (x : RI), l[n]? = some x ∧ x.id = id ∧ r.1 = .int .i64 (n : Int)) ∨ ((∀ (n : Nat) (x : RI), l[n]? = some x → x.id ≠ id) ∧ r.1 = .int .i64 (-1))) := by
  rw [EF_body (O := O0) (by kernel_rfl) Try.func21 rfl (rs := [.tmp 4]) rfl (bad := []) (by kernel_rfl) _ _ (m := 26) rfl]
  obtain ⟨a, c, rfl⟩ := q.ow.val
  have cb := q.cb
  have bl := q.bl
  simp (maxSteps := 1000000) (disch := first | decide | omega | (simp only [go_sem]; first | done | omega)) only [go_sem, Int.reduceToNat, Nat.reduceMul, Nat.reduceAdd, Nat.reduceSub, ↓EU_region, ↓EU_draw]
  repeat refine WPo_ob ?_
  refine (LP_rule (fun m st => ∃ (i : Nat) (tm : Fr), st = ⟨tm, h, []⟩ ∧ m = l.length - i ∧ i ≤ l.length ∧ Fr.get tm 0 = ptr b 0 ∧ Fr.get tm 1 = .int .i64 id ∧ Fr.get tm 5 = .int .i64 (i : Int) ∧ ∀ j x, j < i → l[j]? = some x → x.id ≠ id)
    (fun q => ∃ tm, q.2 = ⟨tm, h, []⟩ ∧ ((q.1 = .exit 0 ∧ ∀ (n : Nat) (x : RI), l[n]? = some x → x.id ≠ id) ∨ (q.1 = .ret ∧ ∃ (n : Nat) (x : RI), l[n]? = some x ∧ x.id = id ∧ Fr.get tm 4 = .int .i64 (n : Int)))) ?_ l.length _ _ ?_ ?_).mono ?_
  · rintro m _ ⟨i, tm, rfl, hm, hi, g0, g1, g5, hno⟩
    by_cases hq : i < l.length
    · have d : decide ((i : Int) < (l.length : Int)) = true := decide_eq_true (by omega)
      obtain ⟨x, hx⟩ : ∃ x, l[i]? = some x := ⟨_, List.getElem?_eq_getElem hq⟩
      have hwi : wrapF .i64 ((i : Int) + 1) = ((i + 1 : Nat) : Int) := by rw [wrap64 (by omega)]; rfl
      obtain ⟨B, o, c', e, _, _, r1⟩ := q.ow.sl.at hx rfl
      cases e
      have r2 := r1 2 _ rfl
      by_cases he : x.id = id
      · have de : decide (x.id = id) = true := decide_eq_true he
        simp (maxSteps := 1000000) (disch := first | decide | omega | (simp only [go_sem]; first | done | omega)) only [go_sem, Int.reduceToNat, Nat.reduceMul, Nat.reduceAdd, Nat.reduceSub, ↓EU_region, ↓EU_draw, g0, g1, g5, cb, d, r2, de]
        exact ⟨_, rfl, .inr ⟨trivial, i, x, hx, he, by simp (maxSteps := 1000000) (disch := first | decide | omega | (simp only [go_sem]; first | done | omega)) only [go_sem, Int.reduceToNat, Nat.reduceMul, Nat.reduceAdd, Nat.reduceSub, ↓EU_region, ↓EU_draw]⟩⟩
      · have de : decide (x.id = id) = false := decide_eq_false he
        simp (maxSteps := 1000000) (disch := first | decide | omega | (simp only [go_sem]; first | done | omega)) only [go_sem, Int.reduceToNat, Nat.reduceMul, Nat.reduceAdd, Nat.reduceSub, ↓EU_region, ↓EU_draw, g0, g1, g5, cb, d, r2, de, hwi]
        refine ⟨l.length - (i + 1), by omega, i + 1, _, rfl, rfl, by omega, by simp (maxSteps := 1000000) (disch := first | decide | omega | (simp only [go_sem]; first | done | omega)) only [go_sem, Int.reduceToNat, Nat.reduceMul, Nat.reduceAdd, Nat.reduceSub, ↓EU_region, ↓EU_draw, g0], by simp (maxSteps := 1000000) (disch := first | decide | omega | (simp only [go_sem]; first | done | omega)) only [go_sem, Int.reduceToNat, Nat.reduceMul, Nat.reduceAdd, Nat.reduceSub, ↓EU_region, ↓EU_draw, g1], by simp (maxSteps := 1000000) (disch := first | decide | omega | (simp only [go_sem]; first | done | omega)) only [go_sem, Int.reduceToNat, Nat.reduceMul, Nat.reduceAdd, Nat.reduceSub, ↓EU_region, ↓EU_draw], fun j y hj hy => ?_⟩
        by_cases e : j = i
        · subst e
          rw [hx] at hy
          cases hy
          exact he
        · exact hno j y (by omega) hy
    · have d : decide ((i : Int) < (l.length : Int)) = false := decide_eq_false (by omega)
      have : i = l.length := by omega
      subst this
      simp (maxSteps := 1000000) (disch := first | decide | omega | (simp only [go_sem]; first | done | omega)) only [go_sem, Int.reduceToNat, Nat.reduceMul, Nat.reduceAdd, Nat.reduceSub, ↓EU_region, ↓EU_draw, g0, g1, g5, cb, d]
      exact ⟨_, rfl, .inl ⟨trivial, fun n x hx => hno n x (List.getElem?_eq_some_iff.1 hx).1 hx⟩⟩
  · exact ⟨0, _, rfl, rfl, by omega, by simp (maxSteps := 1000000) (disch := first | decide | omega | (simp only [go_sem]; first | done | omega)) only [go_sem, Int.reduceToNat, Nat.reduceMul, Nat.reduceAdd, Nat.reduceSub, ↓EU_region, ↓EU_draw], by simp (maxSteps := 1000000) (disch := first | decide | omega | (simp only [go_sem]; first | done | omega)) only [go_sem, Int.reduceToNat, Nat.reduceMul, Nat.reduceAdd, Nat.reduceSub, ↓EU_region, ↓EU_draw], by simp (maxSteps := 1000000) (disch := first | decide | omega | (simp only [go_sem]; first | done | omega)) only [go_sem, Int.reduceToNat, Nat.reduceMul, Nat.reduceAdd, Nat.reduceSub, ↓EU_region, ↓EU_draw]; rfl, fun j x hj => by omega⟩
  · omega
  · rintro ⟨_, _⟩ ⟨tm, rfl, ⟨rfl, hn⟩ | ⟨rfl, n, x, hx, he, g4⟩⟩
    · simp (maxSteps := 1000000) (disch := first | decide | omega | (simp only [go_sem]; first | done | omega)) only [go_sem, Int.reduceToNat, Nat.reduceMul, Nat.reduceAdd, Nat.reduceSub, ↓EU_region, ↓EU_draw]
      exact ⟨trivial, .inr ⟨hn, trivial⟩⟩
    · simp (maxSteps := 1000000) (disch := first | decide | omega | (simp only [go_sem]; first | done | omega)) only [go_sem, Int.reduceToNat, Nat.reduceMul, Nat.reduceAdd, Nat.reduceSub, ↓EU_region, ↓EU_draw, g4]
      exact ⟨trivial, .inl ⟨n, x, hx, he, rfl⟩⟩
theorem before_ev (x y : RI) (h : Heap) : Pu (EF Try.prog O0 33 [.agg ⟨rE x⟩, .agg ⟨rE y⟩] h) h (.bool (decide (ltR x y))) := by
  unfold Pu rE
  rw [EF_body (O := O0) (by kernel_rfl) Try.func33 rfl (rs := [.tmp 4]) rfl (bad := []) (by kernel_rfl) _ _ (m := 24) rfl]
  by_cases h1 : x.key < y.key
  · have d1 : decide (x.key < y.key) = true := decide_eq_true h1
    have d : decide (ltR x y) = true := decide_eq_true (.inl h1)
    simp (maxSteps := 1000000) (disch := first | decide | omega | (simp only [go_sem]; first | done | omega)) only [go_sem, Int.reduceToNat, Nat.reduceMul, Nat.reduceAdd, Nat.reduceSub, ↓EU_region, ↓EU_draw, d1, d]
    exact ⟨trivial, by repeat (first | exact Ext.refl _ | assumption | refine Ext.push ?_ _ | refine Ext.set ?_ _ _ (by first | omega | (simp only [next_push, next_set]; omega)))⟩
  · have d1 : decide (x.key < y.key) = false := decide_eq_false h1
    by_cases h2 : x.key = y.key
    · have d2 : decide (x.key = y.key) = true := decide_eq_true h2
      have d : decide (ltR x y) = decide (x.id < y.id) := by
        congr 1
        unfold ltR
        simp [h1, h2]
      simp (maxSteps := 1000000) (disch := first | decide | omega | (simp only [go_sem]; first | done | omega)) only [go_sem, Int.reduceToNat, Nat.reduceMul, Nat.reduceAdd, Nat.reduceSub, ↓EU_region, ↓EU_draw, d1, d2, d]
      exact ⟨trivial, by repeat (first | exact Ext.refl _ | assumption | refine Ext.push ?_ _ | refine Ext.set ?_ _ _ (by first | omega | (simp only [next_push, next_set]; omega)))⟩
    · have d2 : decide (x.key = y.key) = false := decide_eq_false h2
      have d : decide (ltR x y) = false := decide_eq_false (by unfold ltR; omega)
      simp (maxSteps := 1000000) (disch := first | decide | omega | (simp only [go_sem]; first | done | omega)) only [go_sem, Int.reduceToNat, Nat.reduceMul, Nat.reduceAdd, Nat.reduceSub, ↓EU_region, ↓EU_draw, d1, d2, d]
      exact ⟨trivial, by repeat (first | exact Ext.refl _ | assumption | refine Ext.push ?_ _ | refine Ext.set ?_ _ _ (by first | omega | (simp only [next_push, next_set]; omega)))⟩
set_option maxHeartbeats 4000000 in
theorem rput_ev {h : Heap} {b : Nat} {v : Value} {most : Int} {l : List RI} (q : RR h b v most l) (x : RI) (hl : l.length < 800000) :
    WPo (EF Try.prog O0 18 [ptr b 0, .agg ⟨rE x⟩] h) fun r =>
      (r.1 = .int .i64 4 ∧ Ext h r.2 ∧ ∃ (n : Nat) (y : RI), l[n]? = some y ∧ y.id = x.id) ∨ ((∀ (n : Nat) (y : RI), l[n]? = some y → y.id ≠ x.id) ∧ ((r.1 = .int .i64 3 ∧ Ext h r.2 ∧ most ≤ (l.length : Int)) ∨
      (r.1 = .int .i64 0 ∧ (l.length : Int) < most ∧ ∃ v' k, RR r.2 b v' most (l.take k ++ x :: l.drop k) ∧ Mod (fun j => j = b) h r.2 ∧ Fresh h.next v' ∧ k ≤ l.length ∧ (∀ j y, j < k → l[j]? = some y → ltR y x) ∧ (∀ y, l[k]? = some y → ¬ ltR y x)))) := by
  unfold rE
  rw [EF_body (O := O0) (by kernel_rfl) Try.func18 rfl (rs := [.tmp 4]) rfl (bad := [8]) (by kernel_rfl) _ _ (m := 62) rfl]
  simp (maxSteps := 1000000) (disch := first | decide | omega | (simp only [go_sem]; first | done | omega)) only [go_sem, Int.reduceToNat, Nat.reduceMul, Nat.reduceAdd, Nat.reduceSub, ↓EU_region, ↓EU_draw]
  have x1 : Ext h (h.push (.cells [.int .i64 x.key, .int .i64 x.due, .int .i64 x.id] 0)) := (Ext.refl h).push _
  have q1 := q.ext x1
  have g1 : (h.push (.cells [.int .i64 x.key, .int .i64 x.due, .int .i64 x.id] 0)).get h.next = .cells [.int .i64 x.key, .int .i64 x.due, .int .i64 x.id] 0 := get_push_new _ _
  have n1 : (h.push (.cells [.int .i64 x.key, .int .i64 x.due, .int .i64 x.id] 0)).next = h.next + 1 := next_push _ _
  generalize h.push (.cells [.int .i64 x.key, .int .i64 x.due, .int .i64 x.id] 0) = h1 at *
  repeat refine WPo_ob ?_
  refine (at_ev q1 x.id hl).mono ?_
  rintro ⟨v1, h1'⟩ ⟨e, r⟩
  simp only at e r
  have e := e.symm
  subst e
  rcases r with ⟨n, y, hy, hid, rfl⟩ | ⟨hno, rfl⟩
  · have d : decide ((n : Int) ≥ 0) = true := decide_eq_true (by omega)
    simp (maxSteps := 1000000) (disch := first | decide | omega | (simp only [go_sem]; first | done | omega)) only [go_sem, Int.reduceToNat, Nat.reduceMul, Nat.reduceAdd, Nat.reduceSub, ↓EU_region, ↓EU_draw, d]
    exact .inl ⟨trivial, x1, n, y, hy, hid⟩
  have cb := q1.cb
  have bl := q1.bl
  obtain ⟨a, c, rfl⟩ := q.ow.val
  by_cases hm : (l.length : Int) ≥ most
  · have d : decide ((l.length : Int) ≥ most) = true := decide_eq_true hm
    simp (maxSteps := 1000000) (disch := first | decide | omega | (simp only [go_sem]; first | done | omega)) only [go_sem, Int.reduceToNat, Nat.reduceMul, Nat.reduceAdd, Nat.reduceSub, ↓EU_region, ↓EU_draw, dec_t, dec_f, cb, d]
    exact .inr ⟨hno, .inl ⟨trivial, x1, hm⟩⟩
  have d : decide ((l.length : Int) ≥ most) = false := decide_eq_false hm
  simp (maxSteps := 1000000) (disch := first | decide | omega | (simp only [go_sem]; first | done | omega)) only [go_sem, Int.reduceToNat, Nat.reduceMul, Nat.reduceAdd, Nat.reduceSub, ↓EU_region, ↓EU_draw, dec_t, dec_f, cb, d]
  repeat refine WPo_ob ?_
  refine (LP_rule (fun m st => ∃ (i : Nat) (tm : Fr) (h' : Heap), st = ⟨tm, h', []⟩ ∧ m = l.length - i ∧ i ≤ l.length ∧ Fr.get tm 0 = ptr b 0 ∧ Fr.get tm 3 = ptr h.next 0 ∧ Fr.get tm 5 = .int .i64 (i : Int) ∧ (∀ j y, j < i → l[j]? = some y → ltR y x) ∧ Ext h1 h')
    (fun q => ∃ (i : Nat) (tm : Fr) (h' : Heap), q.2 = ⟨tm, h', []⟩ ∧ q.1 = .exit 0 ∧ i ≤ l.length ∧ Fr.get tm 0 = ptr b 0 ∧ Fr.get tm 3 = ptr h.next 0 ∧ Fr.get tm 5 = .int .i64 (i : Int) ∧ (∀ j y, j < i → l[j]? = some y → ltR y x) ∧ (∀ y, l[i]? = some y → ¬ ltR y x) ∧ Ext h1 h') ?_ l.length _ _ ?_ ?_).mono ?_
  · rintro m _ ⟨i, tm, h', rfl, hm2, hi, g0, g3, g5, hall, xx⟩
    have q' := q1.ext xx
    have cb := q'.cb
    have bl := q'.bl
    have gx := (xx.old _ (by omega : h.next < h1.next)).trans g1
    by_cases hq : i < l.length
    · have d : decide ((i : Int) < (l.length : Int)) = true := decide_eq_true (by omega)
      obtain ⟨y, hy⟩ : ∃ y, l[i]? = some y := ⟨_, List.getElem?_eq_getElem hq⟩
      have hwi : wrapF .i64 ((i : Int) + 1) = ((i + 1 : Nat) : Int) := by rw [wrap64 (by omega)]; rfl
      obtain ⟨B, o, c', e, _, r1, _⟩ := q'.ow.sl.at hy rfl
      cases e
      unfold rE at r1
      have hb := before_ev y x h'
      unfold rE at hb
      simp (maxSteps := 1000000) (disch := first | decide | omega | (simp only [go_sem]; first | done | omega)) only [go_sem, Int.reduceToNat, Nat.reduceMul, Nat.reduceAdd, Nat.reduceSub, ↓EU_region, ↓EU_draw, g0, g3, g5, cb, gx, d, r1]
      repeat refine WPo_ob ?_
      refine hb.bind fun h2 x2 => ?_
      by_cases hlt : ltR y x
      · have dl : decide (ltR y x) = true := decide_eq_true hlt
        simp (maxSteps := 1000000) (disch := first | decide | omega | (simp only [go_sem]; first | done | omega)) only [go_sem, Int.reduceToNat, Nat.reduceMul, Nat.reduceAdd, Nat.reduceSub, ↓EU_region, ↓EU_draw, g5, dl, hwi]
        refine ⟨l.length - (i + 1), by omega, i + 1, _, h2, rfl, rfl, by omega, by simp (maxSteps := 1000000) (disch := first | decide | omega | (simp only [go_sem]; first | done | omega)) only [go_sem, Int.reduceToNat, Nat.reduceMul, Nat.reduceAdd, Nat.reduceSub, ↓EU_region, ↓EU_draw, g0], by simp (maxSteps := 1000000) (disch := first | decide | omega | (simp only [go_sem]; first | done | omega)) only [go_sem, Int.reduceToNat, Nat.reduceMul, Nat.reduceAdd, Nat.reduceSub, ↓EU_region, ↓EU_draw, g3], by simp (maxSteps := 1000000) (disch := first | decide | omega | (simp only [go_sem]; first | done | omega)) only [go_sem, Int.reduceToNat, Nat.reduceMul, Nat.reduceAdd, Nat.reduceSub, ↓EU_region, ↓EU_draw], fun j z hj hz => ?_, xx.trans x2⟩
        by_cases e : j = i
        · subst e
          rw [hy] at hz
          cases hz
          exact hlt
        · exact hall j z (by omega) hz
      · have dl : decide (ltR y x) = false := decide_eq_false hlt
        simp (maxSteps := 1000000) (disch := first | decide | omega | (simp only [go_sem]; first | done | omega)) only [go_sem, Int.reduceToNat, Nat.reduceMul, Nat.reduceAdd, Nat.reduceSub, ↓EU_region, ↓EU_draw, g5, dl]
        refine ⟨i, _, h2, rfl, trivial, hi, by simp (maxSteps := 1000000) (disch := first | decide | omega | (simp only [go_sem]; first | done | omega)) only [go_sem, Int.reduceToNat, Nat.reduceMul, Nat.reduceAdd, Nat.reduceSub, ↓EU_region, ↓EU_draw, g0], by simp (maxSteps := 1000000) (disch := first | decide | omega | (simp only [go_sem]; first | done | omega)) only [go_sem, Int.reduceToNat, Nat.reduceMul, Nat.reduceAdd, Nat.reduceSub, ↓EU_region, ↓EU_draw, g3], by simp (maxSteps := 1000000) (disch := first | decide | omega | (simp only [go_sem]; first | done | omega)) only [go_sem, Int.reduceToNat, Nat.reduceMul, Nat.reduceAdd, Nat.reduceSub, ↓EU_region, ↓EU_draw, g5], hall, fun z hz => ?_, xx.trans x2⟩
        rw [hy] at hz
        cases hz
        exact hlt
    · have d : decide ((i : Int) < (l.length : Int)) = false := decide_eq_false (by omega)
      simp (maxSteps := 1000000) (disch := first | decide | omega | (simp only [go_sem]; first | done | omega)) only [go_sem, Int.reduceToNat, Nat.reduceMul, Nat.reduceAdd, Nat.reduceSub, ↓EU_region, ↓EU_draw, g0, g3, g5, cb, d]
      refine ⟨i, _, h', rfl, trivial, hi, by simp (maxSteps := 1000000) (disch := first | decide | omega | (simp only [go_sem]; first | done | omega)) only [go_sem, Int.reduceToNat, Nat.reduceMul, Nat.reduceAdd, Nat.reduceSub, ↓EU_region, ↓EU_draw, g0], by simp (maxSteps := 1000000) (disch := first | decide | omega | (simp only [go_sem]; first | done | omega)) only [go_sem, Int.reduceToNat, Nat.reduceMul, Nat.reduceAdd, Nat.reduceSub, ↓EU_region, ↓EU_draw, g3], by simp (maxSteps := 1000000) (disch := first | decide | omega | (simp only [go_sem]; first | done | omega)) only [go_sem, Int.reduceToNat, Nat.reduceMul, Nat.reduceAdd, Nat.reduceSub, ↓EU_region, ↓EU_draw, g5], hall, fun z hz => ?_, xx⟩
      rw [List.getElem?_eq_none (by omega)] at hz
      cases hz
  · exact ⟨0, _, h1, rfl, rfl, by omega, by simp (maxSteps := 1000000) (disch := first | decide | omega | (simp only [go_sem]; first | done | omega)) only [go_sem, Int.reduceToNat, Nat.reduceMul, Nat.reduceAdd, Nat.reduceSub, ↓EU_region, ↓EU_draw], by simp (maxSteps := 1000000) (disch := first | decide | omega | (simp only [go_sem]; first | done | omega)) only [go_sem, Int.reduceToNat, Nat.reduceMul, Nat.reduceAdd, Nat.reduceSub, ↓EU_region, ↓EU_draw], by simp (maxSteps := 1000000) (disch := first | decide | omega | (simp only [go_sem]; first | done | omega)) only [go_sem, Int.reduceToNat, Nat.reduceMul, Nat.reduceAdd, Nat.reduceSub, ↓EU_region, ↓EU_draw]; rfl, fun j y hj => by omega, Ext.refl _⟩
  · omega
  · rintro ⟨_, _⟩ ⟨k, tm, h', rfl, rfl, hk, g0, g3, g5, hall, hnk, xx⟩
    have q' := q1.ext xx
    have cb := q'.cb
    have bl := q'.bl
    have gx := (xx.old _ (by omega : h.next < h1.next)).trans g1
    obtain ⟨u, hu, su, bu⟩ := cut_to fc_sl_42 q'.ow.sl .i64 (k : Int) k rfl hk
    have cu : ∀ hh, Ext h' hh → CUT Try.prog hh 42 (.slice a l.length c) none (some (.int .i64 (k : Int))) none = some (u, hh) := fun hh x => cut_extS q'.ow.sl x hu
    obtain ⟨w, hw, sw, bw⟩ := cut_from fc_sl_42 q'.ow.sl .i64 (k : Int) k rfl hk
    have cw : ∀ hh, Ext h' hh → CUT Try.prog hh 42 (.slice a l.length c) (some (.int .i64 (k : Int))) none none = some (w, hh) := fun hh x => cut_extS q'.ow.sl x hw
    have vu := su.veq
    have vw := sw.veq
    have vq := q'.ow.sl.veq
    have xA : Ext h' (h'.push (.cells [] 3)) := (Ext.refl h').push _
    simp (maxSteps := 1000000) (disch := first | decide | omega | (simp only [go_sem]; first | done | omega)) only [go_sem, Int.reduceToNat, Nat.reduceMul, Nat.reduceAdd, Nat.reduceSub]
    rw [EU_bad _ _ rfl, EC_tabC (ix := [0, 2, 3, 4, 5, 6, 7, 1, 8, 9, 10, 11, 12, 13, 14, 15, 16, 17, 18, 19, 20, 21]) (tab := [(false, none), (false, none), (false, none), (false, none), (false, (some (0, 1))), (false, none), (false, (some (0, 1))), (true, none), (true, none), (false, (some (0, 2))), (true, none), (true, none), (false, none), (false, none), (false, none), (false, (some (0, 4))), (false, none), (false, (some (0, 4))), (true, none), (false, none), (false, none), (true, none)]) (by kernel_rfl)]; simp only [permO_n, permO_c, nthO_z, nthO_s]
    simp (maxSteps := 1000000) (disch := first | decide | omega | (simp only [go_sem]; first | done | omega)) only [go_sem, Int.reduceToNat, Nat.reduceMul, Nat.reduceAdd, Nat.reduceSub, ↓EU_region, ↓EU_draw, g0, g3, g5, cb, gx, hu, cu _ xA]
    have nA : (h'.push (.cells [] 3)).next = h'.next + 1 := next_push _ _
    have oA : OW rE 3 (h'.push (.cells [] 3)) (.slice (some ⟨h'.next, 0, none⟩) 0 1) [] := OW.lit rE_len h' []
    repeat refine WPo_ob ?_
    refine append_gr (e := rE) (l := []) (l' := l.take k) fc_ap_42_42 rE_len (by decide) rE_scal oA (su.ext xA) (by rw [List.length_take]; simp only [List.length_nil]; omega) (by rw [List.length_take]; simp only [List.length_nil]; omega) fun v2 h2 o2 gr2 => ?_
    rw [List.nil_append] at o2
    have x2 : Ext h' h2 := (gr2.new).1
    have f2 : Fresh h'.next v2 := (gr2.new).2
    have cb2 := (q'.ext x2).cb
    have gx2 := (x2.old _ (by have := xx.le; omega : h.next < h'.next)).trans gx
    have bl2 := (q'.ext x2).bl
    have n2 := gr2.le
    rw [nA] at n2
    simp (maxSteps := 1000000) (disch := first | decide | omega | (simp only [go_sem]; first | done | omega)) only [go_sem, Int.reduceToNat, Nat.reduceMul, Nat.reduceAdd, Nat.reduceSub, ↓EU_region, ↓EU_draw, g0, g3, g5, cb2, gx2, cu _ x2, vu, vq]
    have hlitx : SL rE 3 (h2.push (.cells [.int .i64 x.key, .int .i64 x.due, .int .i64 x.id] 3)) (.slice (some ⟨h2.next, 0, none⟩) 1 3) [x] := (OW.lit rE_len h2 [x]).sl
    have n2p : (h2.push (.cells [.int .i64 x.key, .int .i64 x.due, .int .i64 x.id] 3)).next = h2.next + 1 := next_push _ _
    repeat refine WPo_ob ?_
    refine append_gr (e := rE) (l := l.take k) (l' := [x]) fc_ap_42_42 rE_len (by decide) rE_scal (o2.ext ((Ext.refl h2).push _)) hlitx (by rw [List.length_take]; simp only [List.length_nil, List.length_cons]; omega) (by rw [List.length_take]; simp only [List.length_nil, List.length_cons]; omega) fun v3 h3 o3 gr3 => ?_
    have x3 : Ext h' h3 := gr3.ext0 (x2.push _) f2
    have f3 : Fresh h'.next v3 := gr3.fresh f2 (by omega)
    have cb3 := (q'.ext x3).cb
    have gx3 := (x3.old _ (by have := xx.le; omega : h.next < h'.next)).trans gx
    have bl3 := (q'.ext x3).bl
    have n3 := gr3.le
    rw [n2p] at n3
    simp (maxSteps := 1000000) (disch := first | decide | omega | (simp only [go_sem]; first | done | omega)) only [go_sem, Int.reduceToNat, Nat.reduceMul, Nat.reduceAdd, Nat.reduceSub, ↓EU_region, ↓EU_draw, g0, g3, g5, cb3, gx3, cu _ x3, cw _ x3, vu, vq, vw]
    repeat refine WPo_ob ?_
    refine append_gr (e := rE) (l := l.take k ++ [x]) (l' := l.drop k) fc_ap_42_42 rE_len (by decide) rE_scal o3 (sw.ext x3) (by rw [List.length_append, List.length_take, List.length_drop]; simp only [List.length_nil, List.length_cons]; omega) (by rw [List.length_append, List.length_take, List.length_drop]; simp only [List.length_nil, List.length_cons]; omega) fun v4 h4 o4 gr4 => ?_
    have x4 : Ext h' h4 := gr4.ext0 x3 f3
    have f4 : Fresh h'.next v4 := gr4.fresh f3 (by omega)
    have cb4 := (q'.ext x4).cb
    have gx4 := (x4.old _ (by have := xx.le; omega : h.next < h'.next)).trans gx
    have bl4 := (q'.ext x4).bl
    have n4 := gr4.le
    have vq4 := o4.sl.veq
    obtain ⟨a4, c4, rfl⟩ := o4.val
    simp (maxSteps := 1000000) (disch := first | decide | omega | (simp only [go_sem]; first | done | omega)) only [go_sem, Int.reduceToNat, Nat.reduceMul, Nat.reduceAdd, Nat.reduceSub, ↓EU_region, ↓EU_draw, g0, g3, g5, cb4, gx4, cu _ x4, cw _ x4, vu, vq, vw, vq4]
    have xB := x2.push (.cells [.int .i64 x.key, .int .i64 x.due, .int .i64 x.id] 3)
    have hx1 := xx.le
    have vf : veqL [Value.int .i64 x.key, .int .i64 x.due, .int .i64 x.id] [.int .i64 x.key, .int .i64 x.due, .int .i64 x.id] = true := veqL_flat [Value.int .i64 x.key, .int .i64 x.due, .int .i64 x.id] rfl
    simp (maxSteps := 1000000) (disch := first | decide | omega | (simp only [go_sem]; first | done | omega)) only [go_sem, Int.reduceToNat, Nat.reduceMul, Nat.reduceAdd, Nat.reduceSub, ↓EU_region, ↓EU_draw, cb, cb2, cb3, gx, gx2, gx3, cu _ (Ext.refl _), cu _ xA, cu _ x2, cu _ xB, cu _ x3, cw _ (Ext.refl _), cw _ xA, cw _ x2, cw _ xB, cw _ x3, vu, vw, vq, vf]
    have hlen : (l.take k ++ [x] ++ l.drop k).length = (l.take k ++ x :: l.drop k).length := by rw [List.append_assoc]; rfl
    have hlist : l.take k ++ [x] ++ l.drop k = l.take k ++ x :: l.drop k := by rw [List.append_assoc]; rfl
    rw [hlist] at o4
    have nb : ∀ i, blkOf (.slice a4 (l.take k ++ [x] ++ l.drop k).length c4) i → ¬ i = b := fun i e e2 => by have := f4 i e; omega
    have xh4 : Ext h h4 := x1.trans (xx.trans x4)
    rw [hlen] at nb ⊢
    rw [hlen] at f4
    refine .inr ⟨hno, .inr ⟨trivial, by omega, .slice a4 (l.take k ++ x :: l.drop k).length c4, k, ⟨by rw [next_set]; have := xh4.le; have := q.bl; omega, get_set_same _ _ _, ?_, fun e => nb _ e rfl⟩, (xh4.mod _).set _ _ (fun _ => rfl), fun i e => by have := f4 i e; omega, hk, hall, hnk⟩⟩
    exact o4.mod ((Mod.refl (fun i => i = b) _).set _ _ (fun _ => rfl)) nb
set_option maxHeartbeats 4000000 in
theorem rdrop_ev {h : Heap} {b : Nat} {v : Value} {most : Int} {l : List RI} (q : RR h b v most l) (id : Int) (hl : l.length < 800000) :
    WPo (EF Try.prog O0 19 [ptr b 0, .int .i64 id] h) fun r =>
      (r.1 = .tuple ⟨[.agg ⟨[.int .i64 0, .int .i64 0, .int .i64 0]⟩, .bool false]⟩ ∧ Ext h r.2 ∧ ∀ (n : Nat) (y : RI), l[n]? = some y → y.id ≠ id) ∨
      (∃ (k : Nat) (x : RI), l[k]? = some x ∧ x.id = id ∧ r.1 = .tuple ⟨[.agg ⟨rE x⟩, .bool true]⟩ ∧ ∃ v', RR r.2 b v' most (l.take k ++ l.drop (k + 1)) ∧ Mod (fun j => j = b) h r.2 ∧ Fresh h.next v') := by
  rw [EF_body (O := O0) (by kernel_rfl) Try.func19 rfl (rs := [.cell 4 41, .tmp 5]) rfl (bad := [5]) (by kernel_rfl) _ _ (m := 41) rfl]
  simp (maxSteps := 1000000) (disch := first | decide | omega | (simp only [go_sem]; first | done | omega)) only [go_sem, Int.reduceToNat, Nat.reduceMul, Nat.reduceAdd, Nat.reduceSub, ↓EU_region, ↓EU_draw]
  have x1 : Ext h (h.push (.cells [.int .i64 0, .int .i64 0, .int .i64 0] 0)) := (Ext.refl h).push _
  have q1 := q.ext x1
  have g1 : (h.push (.cells [.int .i64 0, .int .i64 0, .int .i64 0] 0)).get h.next = .cells [.int .i64 0, .int .i64 0, .int .i64 0] 0 := get_push_new _ _
  have n1 : (h.push (.cells [.int .i64 0, .int .i64 0, .int .i64 0] 0)).next = h.next + 1 := next_push _ _
  generalize h.push (.cells [.int .i64 0, .int .i64 0, .int .i64 0] 0) = h1 at *
  repeat refine WPo_ob ?_
  refine (at_ev q1 id hl).mono ?_
  rintro ⟨v1, h1'⟩ ⟨e, r⟩
  simp only at e r
  have e := e.symm
  subst e
  rcases r with ⟨k, x, hx, hid, rfl⟩ | ⟨hno, rfl⟩
  rotate_left
  · have dm : decide ((-1 : Int) < 0) = true := by decide
    simp (maxSteps := 1000000) (disch := first | decide | omega | (simp only [go_sem]; first | done | omega)) only [go_sem, Int.reduceToNat, Nat.reduceMul, Nat.reduceAdd, Nat.reduceSub, ↓EU_region, ↓EU_draw, g1, dm]
    exact .inl ⟨trivial, x1.set _ _ (Nat.le_refl _), hno⟩
  have hk := (List.getElem?_eq_some_iff.1 hx).1
  have d : decide ((k : Int) < 0) = false := decide_eq_false (by omega)
  have cb := q1.cb
  have bl := q1.bl
  obtain ⟨a, c, rfl⟩ := q.ow.val
  obtain ⟨B, o, c', e, hBl, r1, _⟩ := q1.ow.sl.at hx rfl
  cases e
  unfold rE at r1
  simp (maxSteps := 1000000) (disch := first | decide | omega | (simp only [go_sem]; first | done | omega)) only [go_sem, Int.reduceToNat, Nat.reduceMul, Nat.reduceAdd, Nat.reduceSub, d, cb, r1]
  (first | rw [EU_region] | rw [EU_draw _ _ rfl]); simp (maxSteps := 1000000) (disch := first | decide | omega | (simp only [go_sem]; first | done | omega)) only [go_sem, Int.reduceToNat, Nat.reduceMul, Nat.reduceAdd, Nat.reduceSub, d, cb, r1]
  (first | rw [EU_region] | rw [EU_draw _ _ rfl]); simp (maxSteps := 1000000) (disch := first | decide | omega | (simp only [go_sem]; first | done | omega)) only [go_sem, Int.reduceToNat, Nat.reduceMul, Nat.reduceAdd, Nat.reduceSub, d, cb, r1]
  have x2 : Ext h1 (h1.push (.cells [.int .i64 x.key, .int .i64 x.due, .int .i64 x.id] 0)) := (Ext.refl h1).push _
  have q' := q1.ext x2
  have g4 : (h1.push (.cells [.int .i64 x.key, .int .i64 x.due, .int .i64 x.id] 0)).get h.next = .cells [.int .i64 0, .int .i64 0, .int .i64 0] 0 := by rw [get_push_old _ (by omega)]; exact g1
  have g7 : (h1.push (.cells [.int .i64 x.key, .int .i64 x.due, .int .i64 x.id] 0)).get h1.next = .cells [.int .i64 x.key, .int .i64 x.due, .int .i64 x.id] 0 := get_push_new _ _
  have n2 : (h1.push (.cells [.int .i64 x.key, .int .i64 x.due, .int .i64 x.id] 0)).next = h1.next + 1 := next_push _ _
  generalize h1.push (.cells [.int .i64 x.key, .int .i64 x.due, .int .i64 x.id] 0) = h' at *
  have cb := q'.cb
  have bl := q'.bl
  have hwk : wrapF .i64 ((k : Int) + 1) = ((k + 1 : Nat) : Int) := by rw [wrap64 (by omega)]; rfl
  obtain ⟨u, hu, su, bu⟩ := cut_to fc_sl_42 q'.ow.sl .i64 (k : Int) k rfl (by omega)
  have cu : ∀ hh, Ext h' hh → CUT Try.prog hh 42 (.slice (some ⟨B, o, none⟩) l.length c) none (some (.int .i64 (k : Int))) none = some (u, hh) := fun hh x => cut_extS q'.ow.sl x hu
  obtain ⟨w, hw, sw, bw⟩ := cut_from fc_sl_42 q'.ow.sl .i64 ((k + 1 : Nat) : Int) (k + 1) rfl (by omega)
  have cw : ∀ hh, Ext h' hh → CUT Try.prog hh 42 (.slice (some ⟨B, o, none⟩) l.length c) (some (.int .i64 ((k + 1 : Nat) : Int))) none none = some (w, hh) := fun hh x => cut_extS q'.ow.sl x hw
  have vu := su.veq
  have vw := sw.veq
  have vq := q'.ow.sl.veq
  have xA : Ext h' (h'.push (.cells [] 3)) := (Ext.refl h').push _
  rw [EU_bad _ _ rfl, EC_tabC (ix := [0, 2, 3, 4, 5, 6, 7, 1, 8, 9, 10, 11, 12, 13, 14, 15, 16, 17, 18, 19]) (tab := [(false, none), (false, none), (false, none), (false, none), (false, (some (0, 1))), (false, none), (false, (some (0, 1))), (true, none), (true, none), (false, none), (false, none), (false, none), (false, (some (0, 2))), (false, none), (false, none), (false, (some (0, 2))), (true, none), (false, none), (false, none), (true, none)]) (by kernel_rfl)]; simp only [permO_n, permO_c, nthO_z, nthO_s]
  simp (maxSteps := 1000000) (disch := first | decide | omega | (simp only [go_sem]; first | done | omega)) only [go_sem, Int.reduceToNat, Nat.reduceMul, Nat.reduceAdd, Nat.reduceSub, ↓EU_region, ↓EU_draw, cb, hu, cu _ xA]
  have nA : (h'.push (.cells [] 3)).next = h'.next + 1 := next_push _ _
  have oA : OW rE 3 (h'.push (.cells [] 3)) (.slice (some ⟨h'.next, 0, none⟩) 0 1) [] := OW.lit rE_len h' []
  repeat refine WPo_ob ?_
  refine append_gr (e := rE) (l := []) (l' := l.take k) fc_ap_42_42 rE_len (by decide) rE_scal oA (su.ext xA) (by rw [List.length_take]; simp only [List.length_nil]; omega) (by rw [List.length_take]; simp only [List.length_nil]; omega) fun v2 h2 o2 gr2 => ?_
  rw [List.nil_append] at o2
  have x2' : Ext h' h2 := (gr2.new).1
  have f2 : Fresh h'.next v2 := (gr2.new).2
  have cb2 := (q'.ext x2').cb
  have bl2 := (q'.ext x2').bl
  have m2 := gr2.le
  rw [nA] at m2
  simp (maxSteps := 1000000) (disch := first | decide | omega | (simp only [go_sem]; first | done | omega)) only [go_sem, Int.reduceToNat, Nat.reduceMul, Nat.reduceAdd, Nat.reduceSub, ↓EU_region, ↓EU_draw, cb2, cu _ x2', cw _ x2', vu, vq, hwk]
  repeat refine WPo_ob ?_
  refine append_gr (e := rE) (l := l.take k) (l' := l.drop (k + 1)) fc_ap_42_42 rE_len (by decide) rE_scal o2 (sw.ext x2') (by rw [List.length_take, List.length_drop]; omega) (by rw [List.length_take, List.length_drop]; omega) fun v4 h4 o4 gr4 => ?_
  have x4 : Ext h' h4 := gr4.ext0 x2' f2
  have f4 : Fresh h'.next v4 := gr4.fresh f2 (by omega)
  have cb4 := (q'.ext x4).cb
  have bl4 := (q'.ext x4).bl
  have n4 := gr4.le
  have g44 := (x4.old h.next (by omega)).trans g4
  have g74 := (x4.old h1.next (by omega)).trans g7
  have vq4 := o4.sl.veq
  have qbl := q.bl
  obtain ⟨a4, c4, rfl⟩ := o4.val
  simp (maxSteps := 1000000) (disch := first | decide | omega | (simp only [go_sem]; first | done | omega)) only [go_sem, Int.reduceToNat, Nat.reduceMul, Nat.reduceAdd, Nat.reduceSub, ↓EU_region, ↓EU_draw, cb4, cu _ x4, cw _ x4, vu, vq, vw, vq4, hwk]
  simp (maxSteps := 1000000) (disch := first | decide | omega | (simp only [go_sem]; first | done | omega)) only [go_sem, Int.reduceToNat, Nat.reduceMul, Nat.reduceAdd, Nat.reduceSub, ↓EU_region, ↓EU_draw, cb, cb2, cu _ (Ext.refl _), cu _ xA, cu _ x2', cw _ (Ext.refl _), cw _ xA, cw _ x2', vu, vw, vq, hwk, g44, g74]
  have xh4 : Ext h h4 := x1.trans (x2.trans x4)
  have nb : ∀ i, blkOf (.slice a4 (l.take k ++ l.drop (k + 1)).length c4) i → ¬ i = b := fun i e e2 => by have := f4 i e; omega
  have nc : ∀ i, blkOf (.slice a4 (l.take k ++ l.drop (k + 1)).length c4) i → ¬ i = h.next := fun i e e2 => by have := f4 i e; omega
  refine .inr ⟨k, x, hx, hid, rfl, .slice a4 (l.take k ++ l.drop (k + 1)).length c4, ⟨by rw [next_set, next_set]; omega, by rw [get_set_ne _ (by omega)]; exact get_set_same _ _ _, ?_, fun e => nb _ e rfl⟩, ((xh4.mod (fun j => j = b)).set b _ (fun _ => rfl)).set h.next _ (fun e => absurd e (Nat.lt_irrefl _)), fun i e => by have := f4 i e; omega⟩
  exact (o4.mod ((Mod.refl (fun i => i = b) _).set _ _ (fun _ => rfl)) nb).mod ((Mod.refl (fun i => i = h.next) _).set _ _ (fun _ => rfl)) nc
end Go.Proofs.Ytbbdhpjkibbnkaa.EV
