/- Contracts: the reference's GoodWeight, Good, Same. No condition. -/
import Derived.Test.YtddgcakiceodgaaGreatOwed2
namespace Go.Proofs.YtddgcakiceodgaaGreat.EV
open Go Go.Proofs
set_option linter.unusedVariables false
set_option linter.unusedSimpArgs false
set_option maxRecDepth 100000
set_option pp.deepTerms false
set_option pp.deepTerms.threshold 20
theorem rwGood_ev (a : Int) (h : Heap) : EF Tryz.prog O0 65 [.int .i64 a] h = some (.bool (wgood a), h) := by
  have : WPo (EF Tryz.prog O0 65 [.int .i64 a] h) fun q => q = (.bool (wgood a), h) := by
    rw [EF_body (O := O0) (by kernel_rfl) Tryz.func65 rfl (rs := [.tmp 2]) rfl (bad := []) (by kernel_rfl) _ _ (m := 9) rfl]
    unfold wgood
    simp (maxSteps := 1000000) (disch := first | decide | omega | (simp only [go_sem]; first | done | omega)) only [go_sem, Int.reduceToNat, Nat.reduceMul, Nat.reduceAdd, Nat.reduceSub, ↓EU_region, ↓EU_draw]
    repeat' (((repeat refine WPo_ob ?_); (first | refine WPo_cond (fun hb => ?_) (fun hb => ?_) | refine WPo_gard (fun hb => ?_) (fun hb => ?_) | refine WPo_gardT (fun hb => ?_) (fun hb => ?_)) <;> (try simp only [Bool.not_eq_true', Bool.not_eq_false'] at hb)) <;> (simp (maxSteps := 1000000) (disch := first | decide | omega | (simp only [go_sem]; first | done | omega)) only [go_sem, Int.reduceToNat, Nat.reduceMul, Nat.reduceAdd, Nat.reduceSub, ↓EU_region, ↓EU_draw, hb]))
    all_goals simp_all
  obtain ⟨q, e, rfl⟩ := this
  exact e
/-- what is amiss with an item, one being ahead -/
noncomputable def badAt (p : Option Item) (x : Item) : Bool := !imay x || (match p with | none => false | some y => decide (x.id ≤ y.id))
theorem badAt_true {p : Option Item} {x : Item} {r : List Item} (h : badAt p x = true) : ordOk p (x :: r) = false := by
  unfold badAt at h
  cases p with
  | none => simp only [Bool.or_false, Bool.not_eq_true'] at h; simp [ordOk, h]
  | some y =>
    simp only [Bool.or_eq_true, Bool.not_eq_true', decide_eq_true_eq] at h
    rcases h with h | h
    · simp [ordOk, h]
    · simp only [ordOk]; rw [decide_eq_false (by omega : ¬ y.id < x.id)]; simp
theorem badAt_false {p : Option Item} {x : Item} {r : List Item} (h : badAt p x = false) : ordOk p (x :: r) = ordOk (some x) r := by
  unfold badAt at h
  cases p with
  | none => simp only [Bool.or_false, Bool.not_eq_false'] at h; simp [ordOk, h]
  | some y =>
    simp only [Bool.or_eq_false_iff, Bool.not_eq_false', decide_eq_false_iff_not] at h
    simp only [ordOk]; rw [decide_eq_true (by omega : y.id < x.id), h.1]; simp
theorem imay_neg (x : Item) : (!imay x) = (decide (x.id < 0) || (decide (1073741824 < x.id) || (!wgood x.w || (decide (x.lag < -1125899906842624) || decide (1125899906842624 < x.lag))))) := by
  unfold imay
  simp only [Bool.not_and]
  congr 1
  · rw [← decide_not]; congr 1; simp; 
  · congr 1
    · rw [← decide_not]; congr 1; simp
    · congr 2
      · rw [← decide_not]; congr 1; simp
      · rw [← decide_not]; congr 1; simp
theorem prevAt_succ {l : List Item} {i : Nat} {x : Item} (h : l[i]? = some x) : prevAt l (i + 1) = some x := by
  unfold prevAt; rw [if_neg (by omega), Nat.add_sub_cancel, h]
theorem rgood_ev (cur : Int) (l : List Item) (s : Value) (h : Heap) (hs : SL itemE 3 h s l) (hl : l.length < 900000) :
    Pu (EF Tryz.prog O0 43 [formV cur s] h) h (.bool (goodF cur l)) := by
  unfold Pu formV
  rw [EF_body (O := O0) (by kernel_rfl) Tryz.func43 rfl (rs := [.tmp 2]) rfl (bad := []) (by kernel_rfl) _ _ (m := 90) rfl]
  obtain ⟨a, c, hv⟩ := hs.val
  subst hv
  simp (maxSteps := 1000000) (disch := first | decide | omega | (simp only [go_sem]; first | done | omega)) only [go_sem, Int.reduceToNat, Nat.reduceMul, Nat.reduceAdd, Nat.reduceSub, ↓EU_region, ↓EU_draw]
  repeat refine WPo_ob ?_
  refine (LP_rule (fun m st => ∃ (i : Nat) (tm : Fr) (h2 : Heap), st = ⟨tm, h2, []⟩ ∧ m = l.length - i ∧ i ≤ l.length ∧ Fr.get tm 1 = ptr h.next 0 ∧ Fr.get tm 5 = .int .i64 i ∧ Fr.get tm 3 = .bool (decide (cur = -1) || (l.take i).any (byId cur)) ∧ Fr.get tm 4 = .bool (decide ((l.length : Int) = 0) || (l.take i).any lagOk) ∧ Ext (h.push (.cells [.int .i64 cur, .slice a l.length c] 0)) h2 ∧ ordOk none l = ordOk (prevAt l i) (l.drop i))
    (fun q => ∃ tm h2, q.2 = ⟨tm, h2, []⟩ ∧ Ext (h.push (.cells [.int .i64 cur, .slice a l.length c] 0)) h2 ∧ ((q.1 = .exit 0 ∧ ordOk none l = true ∧ Fr.get tm 1 = ptr h.next 0 ∧ Fr.get tm 3 = .bool (decide (cur = -1) || l.any (byId cur)) ∧ Fr.get tm 4 = .bool (decide ((l.length : Int) = 0) || l.any lagOk)) ∨ (q.1 = .ret ∧ ordOk none l = false ∧ Fr.get tm 2 = .bool false))) ?_ l.length _ _ ?_ ?_).mono ?_
  · rintro m _ ⟨i, tm, h2, rfl, rfl, hi, g1, g5, g3, g4, x2, ho⟩
    have hn2 := x2.le
    rw [next_push] at hn2
    have hF2 : h2.get h.next = .cells [.int .i64 cur, .slice a l.length c] 0 := by rw [x2.old _ (by rw [next_push]; omega)]; exact get_push_new _ _
    simp (maxSteps := 1000000) (disch := first | decide | omega | (simp only [go_sem]; first | done | omega)) only [go_sem, Int.reduceToNat, Nat.reduceMul, Nat.reduceAdd, Nat.reduceSub, ↓EU_region, ↓EU_draw, g1, g5, hF2]
    ((repeat refine WPo_ob ?_); (first | refine WPo_cond (fun b2 => ?_) (fun b2 => ?_) | refine WPo_gard (fun b2 => ?_) (fun b2 => ?_) | refine WPo_gardT (fun b2 => ?_) (fun b2 => ?_)) <;> (try simp only [Bool.not_eq_true', Bool.not_eq_false'] at b2))
    · have b2' := b2
      simp only [decide_eq_true_eq] at b2'
      have hi' : i < l.length := by omega
      obtain ⟨x, hx⟩ : ∃ x, l[i]? = some x := ⟨_, List.getElem?_eq_getElem hi'⟩
      obtain ⟨b, o, c', e, hb', hr, _⟩ := (hs.ext (((Ext.refl h).push _).trans x2)).at hx rfl
      cases e
      have hq : ∀ j y, l[j]? = some y → rdc1 (h2.get b) (o + j * 3) = some (.int .i64 y.id) := fun j y hy => by
        obtain ⟨_, _, _, e, _, _, hr⟩ := (hs.ext (((Ext.refl h).push (.cells [.int .i64 cur, .slice (some ⟨b, o, none⟩) l.length c] 0)).trans x2)).at hy rfl
        cases e
        have := hr 0 _ rfl
        rw [add_z] at this
        exact this
      simp (maxSteps := 1000000) (disch := first | decide | omega | (simp only [go_sem]; first | done | omega)) only [go_sem, Int.reduceToNat, Nat.reduceMul, Nat.reduceAdd, Nat.reduceSub, g1, g5, hr]
      (first | rw [EU_region] | rw [EU_draw _ _ rfl]); simp (maxSteps := 1000000) (disch := first | decide | omega | (simp only [go_sem]; first | done | omega)) only [go_sem, Int.reduceToNat, Nat.reduceMul, Nat.reduceAdd, Nat.reduceSub, g1, g5, hr, hF2]
      rw [EU_draw _ _ rfl]
      repeat refine WPo_ob ?_
      refine WPo.mono (Q := fun st => ∃ tm', st = ⟨tm', h2.push (.cells (itemE x) 0), []⟩ ∧ Fr.get tm' 1 = ptr h.next 0 ∧ Fr.get tm' 5 = .int .i64 i ∧ Fr.get tm' 6 = ptr h2.next 0 ∧ Fr.get tm' 3 = .bool (decide (cur = -1) || (l.take i).any (byId cur)) ∧ Fr.get tm' 4 = .bool (decide ((l.length : Int) = 0) || (l.take i).any lagOk) ∧ Fr.get tm' 65 = .bool (badAt (prevAt l i) x)) ?_ ?_
      · rcases Nat.eq_zero_or_pos i with hi0 | hi0
        · have hp : prevAt l i = none := by unfold prevAt; rw [if_pos hi0]
          have hd : decide (0 < (i : Int)) = false := decide_eq_false (by omega)
          rw [hp]
          unfold badAt
          rw [imay_neg]
          simp (maxSteps := 1000000) (disch := first | decide | omega | (simp only [go_sem]; first | done | omega)) only [go_sem, Int.reduceToNat, Nat.reduceMul, Nat.reduceAdd, Nat.reduceSub, ↓EU_region, ↓EU_draw, g1, g5, hF2, rwGood_ev, hd]
          repeat' (((repeat refine WPo_ob ?_); (first | refine WPo_cond (fun hb => ?_) (fun hb => ?_) | refine WPo_gard (fun hb => ?_) (fun hb => ?_) | refine WPo_gardT (fun hb => ?_) (fun hb => ?_)) <;> (try simp only [Bool.not_eq_true', Bool.not_eq_false'] at hb)) <;> (simp (maxSteps := 1000000) (disch := first | decide | omega | (simp only [go_sem]; first | done | omega)) only [go_sem, Int.reduceToNat, Nat.reduceMul, Nat.reduceAdd, Nat.reduceSub, ↓EU_region, ↓EU_draw, hb, g1, g5, hF2, rwGood_ev, hd]))
          all_goals (exact ⟨_, rfl, by simp (maxSteps := 1000000) (disch := first | decide | omega | (simp only [go_sem]; first | done | omega)) only [go_sem, Int.reduceToNat, Nat.reduceMul, Nat.reduceAdd, Nat.reduceSub, ↓EU_region, ↓EU_draw, g1], by simp (maxSteps := 1000000) (disch := first | decide | omega | (simp only [go_sem]; first | done | omega)) only [go_sem, Int.reduceToNat, Nat.reduceMul, Nat.reduceAdd, Nat.reduceSub, ↓EU_region, ↓EU_draw, g5], by simp (maxSteps := 1000000) (disch := first | decide | omega | (simp only [go_sem]; first | done | omega)) only [go_sem, Int.reduceToNat, Nat.reduceMul, Nat.reduceAdd, Nat.reduceSub, ↓EU_region, ↓EU_draw], by simp (maxSteps := 1000000) (disch := first | decide | omega | (simp only [go_sem]; first | done | omega)) only [go_sem, Int.reduceToNat, Nat.reduceMul, Nat.reduceAdd, Nat.reduceSub, ↓EU_region, ↓EU_draw, g3], by simp (maxSteps := 1000000) (disch := first | decide | omega | (simp only [go_sem]; first | done | omega)) only [go_sem, Int.reduceToNat, Nat.reduceMul, Nat.reduceAdd, Nat.reduceSub, ↓EU_region, ↓EU_draw, g4], by simp (maxSteps := 1000000) (disch := first | decide | omega | (simp only [go_sem]; first | done | omega)) only [go_sem, Int.reduceToNat, Nat.reduceMul, Nat.reduceAdd, Nat.reduceSub, ↓EU_region, ↓EU_draw]; simp [*]⟩)
        · obtain ⟨y, hy⟩ : ∃ y, l[i - 1]? = some y := ⟨_, List.getElem?_eq_getElem (by omega)⟩
          have hp : prevAt l i = some y := by unfold prevAt; rw [if_neg (by omega), hy]
          have hd : decide (0 < (i : Int)) = true := decide_eq_true (by omega)
          have hq0 := hq _ y hy
          rw [hp]
          unfold badAt
          rw [imay_neg]
          simp (maxSteps := 1000000) (disch := first | decide | omega | (simp only [go_sem]; first | done | omega)) only [go_sem, Int.reduceToNat, Nat.reduceMul, Nat.reduceAdd, Nat.reduceSub, ↓EU_region, ↓EU_draw, g1, g5, hF2, rwGood_ev, hd, hq0]
          repeat' (((repeat refine WPo_ob ?_); (first | refine WPo_cond (fun hb => ?_) (fun hb => ?_) | refine WPo_gard (fun hb => ?_) (fun hb => ?_) | refine WPo_gardT (fun hb => ?_) (fun hb => ?_)) <;> (try simp only [Bool.not_eq_true', Bool.not_eq_false'] at hb)) <;> (simp (maxSteps := 1000000) (disch := first | decide | omega | (simp only [go_sem]; first | done | omega)) only [go_sem, Int.reduceToNat, Nat.reduceMul, Nat.reduceAdd, Nat.reduceSub, ↓EU_region, ↓EU_draw, hb, g1, g5, hF2, rwGood_ev, hd, hq0]))
          all_goals (exact ⟨_, rfl, by simp (maxSteps := 1000000) (disch := first | decide | omega | (simp only [go_sem]; first | done | omega)) only [go_sem, Int.reduceToNat, Nat.reduceMul, Nat.reduceAdd, Nat.reduceSub, ↓EU_region, ↓EU_draw, g1], by simp (maxSteps := 1000000) (disch := first | decide | omega | (simp only [go_sem]; first | done | omega)) only [go_sem, Int.reduceToNat, Nat.reduceMul, Nat.reduceAdd, Nat.reduceSub, ↓EU_region, ↓EU_draw, g5], by simp (maxSteps := 1000000) (disch := first | decide | omega | (simp only [go_sem]; first | done | omega)) only [go_sem, Int.reduceToNat, Nat.reduceMul, Nat.reduceAdd, Nat.reduceSub, ↓EU_region, ↓EU_draw], by simp (maxSteps := 1000000) (disch := first | decide | omega | (simp only [go_sem]; first | done | omega)) only [go_sem, Int.reduceToNat, Nat.reduceMul, Nat.reduceAdd, Nat.reduceSub, ↓EU_region, ↓EU_draw, g3], by simp (maxSteps := 1000000) (disch := first | decide | omega | (simp only [go_sem]; first | done | omega)) only [go_sem, Int.reduceToNat, Nat.reduceMul, Nat.reduceAdd, Nat.reduceSub, ↓EU_region, ↓EU_draw, g4], by simp (maxSteps := 1000000) (disch := first | decide | omega | (simp only [go_sem]; first | done | omega)) only [go_sem, Int.reduceToNat, Nat.reduceMul, Nat.reduceAdd, Nat.reduceSub, ↓EU_region, ↓EU_draw]; simp [*]⟩)
      · rintro _ ⟨tm', rfl, k1, k5, k6, k3, k4, k65⟩
        have hx2 : Ext (h.push (.cells [.int .i64 cur, .slice (some ⟨b, o, none⟩) l.length c] 0)) (h2.push (.cells (itemE x) 0)) := x2.push _
        cases hbad : badAt (prevAt l i) x with
        | true =>
          rw [hbad] at k65
          simp (maxSteps := 1000000) (disch := first | decide | omega | (simp only [go_sem]; first | done | omega)) only [go_sem, Int.reduceToNat, Nat.reduceMul, Nat.reduceAdd, Nat.reduceSub, ↓EU_region, ↓EU_draw, k65]
          exact ⟨_, _, rfl, hx2, .inr ⟨trivial, by rw [ho, drop_at hx]; exact badAt_true hbad, by simp (maxSteps := 1000000) (disch := first | decide | omega | (simp only [go_sem]; first | done | omega)) only [go_sem, Int.reduceToNat, Nat.reduceMul, Nat.reduceAdd, Nat.reduceSub, ↓EU_region, ↓EU_draw]⟩⟩
        | false =>
          rw [hbad] at k65
          have ho' : ordOk none l = ordOk (prevAt l (i + 1)) (l.drop (i + 1)) := by rw [ho, drop_at hx, badAt_false hbad, prevAt_succ hx]
          have t3 := take_any (byId cur) hx
          have t4 := take_any lagOk hx
          generalize (l.take i).any (byId cur) = w at k3 t3
          generalize (l.take i).any lagOk = u at k4 t4
          simp (maxSteps := 1000000) (disch := first | decide | omega | (simp only [go_sem]; first | done | omega)) only [go_sem, Int.reduceToNat, Nat.reduceMul, Nat.reduceAdd, Nat.reduceSub, ↓EU_region, ↓EU_draw, k1, k5, k6, k3, k4, k65, hF2]
          repeat' (((repeat refine WPo_ob ?_); (first | refine WPo_cond (fun hb => ?_) (fun hb => ?_) | refine WPo_gard (fun hb => ?_) (fun hb => ?_) | refine WPo_gardT (fun hb => ?_) (fun hb => ?_)) <;> (try simp only [Bool.not_eq_true', Bool.not_eq_false'] at hb)) <;> (simp (maxSteps := 1000000) (disch := first | decide | omega | (simp only [go_sem]; first | done | omega)) only [go_sem, Int.reduceToNat, Nat.reduceMul, Nat.reduceAdd, Nat.reduceSub, ↓EU_region, ↓EU_draw, hb, k1, k5, k6, k3, k4, k65, hF2]))
          all_goals (refine ⟨_, by omega, i + 1, _, _, rfl, rfl, by omega, by simp (maxSteps := 1000000) (disch := first | decide | omega | (simp only [go_sem]; first | done | omega)) only [go_sem, Int.reduceToNat, Nat.reduceMul, Nat.reduceAdd, Nat.reduceSub, ↓EU_region, ↓EU_draw, k1], by simp (maxSteps := 1000000) (disch := first | decide | omega | (simp only [go_sem]; first | done | omega)) only [go_sem, Int.reduceToNat, Nat.reduceMul, Nat.reduceAdd, Nat.reduceSub, ↓EU_region, ↓EU_draw], ?_, ?_, hx2, ho'⟩)
          all_goals (simp only [t3, t4, ← Bool.or_assoc])
          all_goals (simp (maxSteps := 1000000) (disch := first | decide | omega | (simp only [go_sem]; first | done | omega)) only [go_sem, Int.reduceToNat, Nat.reduceMul, Nat.reduceAdd, Nat.reduceSub, ↓EU_region, ↓EU_draw, k3, k4])
          all_goals (clear t3 t4 ho'; simp_all [byId, lagOk])
    · simp only [decide_eq_false_iff_not] at b2
      have : i = l.length := by omega
      subst this
      simp (maxSteps := 1000000) (disch := first | decide | omega | (simp only [go_sem]; first | done | omega)) only [go_sem, Int.reduceToNat, Nat.reduceMul, Nat.reduceAdd, Nat.reduceSub, ↓EU_region, ↓EU_draw]
      rw [List.take_length] at g3 g4
      refine ⟨_, _, rfl, x2, .inl ⟨trivial, ?_, by simp (maxSteps := 1000000) (disch := first | decide | omega | (simp only [go_sem]; first | done | omega)) only [go_sem, Int.reduceToNat, Nat.reduceMul, Nat.reduceAdd, Nat.reduceSub, ↓EU_region, ↓EU_draw, g1], by simp (maxSteps := 1000000) (disch := first | decide | omega | (simp only [go_sem]; first | done | omega)) only [go_sem, Int.reduceToNat, Nat.reduceMul, Nat.reduceAdd, Nat.reduceSub, ↓EU_region, ↓EU_draw, g3], by simp (maxSteps := 1000000) (disch := first | decide | omega | (simp only [go_sem]; first | done | omega)) only [go_sem, Int.reduceToNat, Nat.reduceMul, Nat.reduceAdd, Nat.reduceSub, ↓EU_region, ↓EU_draw, g4]⟩⟩
      rw [ho, List.drop_length]
      cases prevAt l l.length <;> rfl
  · exact ⟨0, _, _, rfl, rfl, by omega, by simp (maxSteps := 1000000) (disch := first | decide | omega | (simp only [go_sem]; first | done | omega)) only [go_sem, Int.reduceToNat, Nat.reduceMul, Nat.reduceAdd, Nat.reduceSub, ↓EU_region, ↓EU_draw], by simp (maxSteps := 1000000) (disch := first | decide | omega | (simp only [go_sem]; first | done | omega)) only [go_sem, Int.reduceToNat, Nat.reduceMul, Nat.reduceAdd, Nat.reduceSub, ↓EU_region, ↓EU_draw]; rfl, by simp (maxSteps := 1000000) (disch := first | decide | omega | (simp only [go_sem]; first | done | omega)) only [go_sem, Int.reduceToNat, Nat.reduceMul, Nat.reduceAdd, Nat.reduceSub, ↓EU_region, ↓EU_draw]; simp, by simp (maxSteps := 1000000) (disch := first | decide | omega | (simp only [go_sem]; first | done | omega)) only [go_sem, Int.reduceToNat, Nat.reduceMul, Nat.reduceAdd, Nat.reduceSub, ↓EU_region, ↓EU_draw]; simp, Ext.refl _, rfl⟩
  · omega
  · rintro ⟨q, _⟩ ⟨tm, h2, rfl, x2, ⟨rfl, e1, g1, g3, g4⟩ | ⟨rfl, e1, e2⟩⟩
    · have hn2 := x2.le
      rw [next_push] at hn2
      have hF2 : h2.get h.next = .cells [.int .i64 cur, .slice a l.length c] 0 := by rw [x2.old _ (by rw [next_push]; omega)]; exact get_push_new _ _
      simp (maxSteps := 1000000) (disch := first | decide | omega | (simp only [go_sem]; first | done | omega)) only [go_sem, Int.reduceToNat, Nat.reduceMul, Nat.reduceAdd, Nat.reduceSub, ↓EU_region, ↓EU_draw, g1, g3, g4, hF2]
      have hx2 := ((Ext.refl h).push (.cells [.int .i64 cur, .slice a l.length c] 0)).trans x2
      have hlen : decide ((l.length : Int) = 0) = decide (l.length = 0) := by congr 1; exact propext (by omega)
      have hlen' : decide ((l.length : Int) ≤ 64) = decide (l.length ≤ 64) := by congr 1; exact propext (by omega)
      unfold goodF
      repeat' (((repeat refine WPo_ob ?_); (first | refine WPo_cond (fun hb => ?_) (fun hb => ?_) | refine WPo_gard (fun hb => ?_) (fun hb => ?_) | refine WPo_gardT (fun hb => ?_) (fun hb => ?_)) <;> (try simp only [Bool.not_eq_true', Bool.not_eq_false'] at hb)) <;> (simp (maxSteps := 1000000) (disch := first | decide | omega | (simp only [go_sem]; first | done | omega)) only [go_sem, Int.reduceToNat, Nat.reduceMul, Nat.reduceAdd, Nat.reduceSub, ↓EU_region, ↓EU_draw, hb, g1, g3, g4, hF2]))
      all_goals (refine ⟨?_, hx2⟩; simp_all)
    · simp (maxSteps := 1000000) (disch := first | decide | omega | (simp only [go_sem]; first | done | omega)) only [go_sem, Int.reduceToNat, Nat.reduceMul, Nat.reduceAdd, Nat.reduceSub, ↓EU_region, ↓EU_draw, e2]
      refine ⟨?_, ((Ext.refl h).push _).trans x2⟩
      congr 1
      unfold goodF
      rw [e1]
      simp
end Go.Proofs.YtddgcakiceodgaaGreat.EV
