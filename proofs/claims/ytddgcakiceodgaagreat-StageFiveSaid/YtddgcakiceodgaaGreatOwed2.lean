/- Contracts: owed.Good, owed.Same. No condition. -/
import Derived.Test.YtddgcakiceodgaaGreatOwed1
namespace Go.Proofs.YtddgcakiceodgaaGreat.EV
open Go Go.Proofs
set_option linter.unusedVariables false
set_option linter.unusedSimpArgs false
set_option maxRecDepth 100000
set_option pp.deepTerms false
set_option pp.deepTerms.threshold 20

noncomputable def ordOk : Option Item → List Item → Bool
  | _, [] => true
  | none, x :: l => imay x && ordOk (some x) l
  | some y, x :: l => imay x && (decide (y.id < x.id) && ordOk (some x) l)
noncomputable def lagOk (x : Item) : Bool := decide (0 ≤ x.lag)
noncomputable def goodF (cur : Int) (l : List Item) : Bool := decide (l.length ≤ 64) && ((decide (cur = -1) || l.any (byId cur)) && (ordOk none l && (decide (l.length = 0) || l.any lagOk)))
theorem idx_neg {α : Type} {p : α → Bool} {l : List α} : decide (idx p l < 0) = !l.any p := by
  cases h : l.any p with
  | true =>
    obtain ⟨x, hx, hp⟩ := List.any_eq_true.1 h
    unfold idx
    cases hf : l.findIdx? p with
    | none => rw [List.findIdx?_eq_none_iff] at hf; rw [hf x hx] at hp; cases hp
    | some i => simp
  | false =>
    rw [idx_miss fun j y _ hy => ?_]
    · rfl
    · have := List.any_eq_false.1 h y (List.mem_of_getElem? hy)
      simpa using this
/-- what stands ahead of a place -/
noncomputable def prevAt (l : List Item) (i : Nat) : Option Item := if i = 0 then none else l[i - 1]?
theorem drop_at {α : Type} {l : List α} {i : Nat} {x : α} (h : l[i]? = some x) : l.drop i = x :: l.drop (i + 1) := by
  obtain ⟨h1, h2⟩ := List.getElem?_eq_some_iff.1 h
  rw [List.drop_eq_getElem_cons h1, h2]
theorem take_any {α : Type} {l : List α} {i : Nat} {x : α} (p : α → Bool) (h : l[i]? = some x) : (l.take (i + 1)).any p = ((l.take i).any p || p x) := by
  rw [List.take_add_one, h]
  simp
set_option maxHeartbeats 1000000 in
theorem good_ev (cur : Int) (l : List Item) (s : Value) (h : Heap) (hs : SL itemE 3 h s l) (hl : l.length < 900000) :
    Pu (EF Tryz.prog O0 87 [formV cur s] h) h (.bool (goodF cur l)) := by
  have hF := find_ev cur l s cur (h.push (.cells [.int .i64 cur, s] 0)) (hs.ext ((Ext.refl h).push _)) hl
  have hv0 := hs.val
  unfold Pu
  rw [EF_body (O := O0) (by kernel_rfl) Tryz.func87 rfl (rs := [.tmp 2]) rfl (bad := []) (by kernel_rfl) _ _ (m := 61) rfl]
  obtain ⟨a, c, hv⟩ := hs.val
  subst hv
  unfold formV at hF ⊢
  simp (maxSteps := 1000000) (disch := first | decide | omega | (simp only [go_sem]; first | done | omega)) only [go_sem, Int.reduceToNat, Nat.reduceMul, Nat.reduceAdd, Nat.reduceSub]
  (first | rw [EU_region] | rw [EU_draw _ _ rfl]); simp (maxSteps := 1000000) (disch := first | decide | omega | (simp only [go_sem]; first | done | omega)) only [go_sem, Int.reduceToNat, Nat.reduceMul, Nat.reduceAdd, Nat.reduceSub]
  repeat refine WPo_ob ?_
  refine WPo.mono (Q := fun q => ∃ tm h1, q = (.normal, ⟨tm, h1, []⟩) ∧ Ext (h.push (.cells [.int .i64 cur, .slice a l.length c] 0)) h1 ∧ Fr.get tm 1 = ptr h.next 0 ∧ Fr.get tm 21 = .bool (decide (64 < (l.length : Int)) || (!decide (cur = -1) && !l.any (byId cur)))) ?_ ?_
  · simp (maxSteps := 1000000) (disch := first | decide | omega | (simp only [go_sem]; first | done | omega)) only [go_sem, Int.reduceToNat, Nat.reduceMul, Nat.reduceAdd, Nat.reduceSub, ↓EU_region, ↓EU_draw]
    repeat' (((repeat refine WPo_ob ?_); (first | refine WPo_cond (fun hb => ?_) (fun hb => ?_) | refine WPo_gard (fun hb => ?_) (fun hb => ?_) | refine WPo_gardT (fun hb => ?_) (fun hb => ?_)) <;> (try simp only [Bool.not_eq_true', Bool.not_eq_false'] at hb)) <;> (simp (maxSteps := 1000000) (disch := first | decide | omega | (simp only [go_sem]; first | done | omega)) only [go_sem, Int.reduceToNat, Nat.reduceMul, Nat.reduceAdd, Nat.reduceSub, ↓EU_region, ↓EU_draw, hb]))
    · repeat refine WPo_ob ?_
      refine hF.mono ?_
      rintro ⟨v, h1⟩ ⟨rfl, x1⟩
      simp (maxSteps := 1000000) (disch := first | decide | omega | (simp only [go_sem]; first | done | omega)) only [go_sem, Int.reduceToNat, Nat.reduceMul, Nat.reduceAdd, Nat.reduceSub, ↓EU_region, ↓EU_draw, idx_neg, hb]
      exact ⟨_, _, rfl, x1, by simp (maxSteps := 1000000) (disch := first | decide | omega | (simp only [go_sem]; first | done | omega)) only [go_sem, Int.reduceToNat, Nat.reduceMul, Nat.reduceAdd, Nat.reduceSub, ↓EU_region, ↓EU_draw], by simp (maxSteps := 1000000) (disch := first | decide | omega | (simp only [go_sem]; first | done | omega)) only [go_sem, Int.reduceToNat, Nat.reduceMul, Nat.reduceAdd, Nat.reduceSub, ↓EU_region, ↓EU_draw]; simp [*]⟩
    · exact ⟨_, _, rfl, Ext.refl _, by simp (maxSteps := 1000000) (disch := first | decide | omega | (simp only [go_sem]; first | done | omega)) only [go_sem, Int.reduceToNat, Nat.reduceMul, Nat.reduceAdd, Nat.reduceSub, ↓EU_region, ↓EU_draw], by simp (maxSteps := 1000000) (disch := first | decide | omega | (simp only [go_sem]; first | done | omega)) only [go_sem, Int.reduceToNat, Nat.reduceMul, Nat.reduceAdd, Nat.reduceSub, ↓EU_region, ↓EU_draw]; simp [*]⟩
    · exact ⟨_, _, rfl, Ext.refl _, by simp (maxSteps := 1000000) (disch := first | decide | omega | (simp only [go_sem]; first | done | omega)) only [go_sem, Int.reduceToNat, Nat.reduceMul, Nat.reduceAdd, Nat.reduceSub, ↓EU_region, ↓EU_draw], by simp (maxSteps := 1000000) (disch := first | decide | omega | (simp only [go_sem]; first | done | omega)) only [go_sem, Int.reduceToNat, Nat.reduceMul, Nat.reduceAdd, Nat.reduceSub, ↓EU_region, ↓EU_draw]; simp [*]⟩
  · rintro _ ⟨tm, h1, rfl, x1, g1, g21⟩
    simp (maxSteps := 1000000) (disch := first | decide | omega | (simp only [go_sem]; first | done | omega)) only [go_sem, Int.reduceToNat, Nat.reduceMul, Nat.reduceAdd, Nat.reduceSub, g1, g21]
    ((repeat refine WPo_ob ?_); (first | refine WPo_cond (fun b1 => ?_) (fun b1 => ?_) | refine WPo_gard (fun b1 => ?_) (fun b1 => ?_) | refine WPo_gardT (fun b1 => ?_) (fun b1 => ?_)) <;> (try simp only [Bool.not_eq_true', Bool.not_eq_false'] at b1))
    · simp (maxSteps := 1000000) (disch := first | decide | omega | (simp only [go_sem]; first | done | omega)) only [go_sem, Int.reduceToNat, Nat.reduceMul, Nat.reduceAdd, Nat.reduceSub, ↓EU_region, ↓EU_draw, b1]
      refine ⟨?_, (Ext.push (Ext.refl _) _).trans x1⟩
      congr 1
      unfold goodF
      simp only [Bool.or_eq_true, decide_eq_true_eq, Bool.and_eq_true, Bool.not_eq_true', decide_eq_false_iff_not] at b1
      rcases b1 with b1 | ⟨b1, b2⟩
      · rw [decide_eq_false (by omega : ¬ l.length ≤ 64)]; rfl
      · rw [decide_eq_false b1, b2]; simp
    · simp only [Bool.or_eq_false_iff, decide_eq_false_iff_not, Bool.and_eq_false_iff, Bool.not_eq_false', decide_eq_true_eq] at b1
      have hF1 : h1.get h.next = .cells [.int .i64 cur, .slice a l.length c] 0 := by simp (maxSteps := 1000000) (disch := first | decide | omega | (simp only [go_sem]; first | done | omega)) only [go_sem, Int.reduceToNat, Nat.reduceMul, Nat.reduceAdd, Nat.reduceSub, ↓EU_region, ↓EU_draw, x1.old]
      have hn1 : h.next < h1.next := by have := x1.le; rw [next_push] at this; omega
      have hs1 := (hs.ext ((Ext.refl h).push (.cells [.int .i64 cur, .slice a l.length c] 0))).ext x1
      have hx1 := ((Ext.refl h).push (.cells [.int .i64 cur, .slice a l.length c] 0)).trans x1
      have hg : goodF cur l = (ordOk none l && (decide (l.length = 0) || l.any lagOk)) := by
        unfold goodF
        rw [decide_eq_true (by omega : l.length ≤ 64)]
        rcases b1.2 with q | q <;> simp [q]
      rw [hg]
      clear hF hg g21 x1
      simp (maxSteps := 1000000) (disch := first | decide | omega | (simp only [go_sem]; first | done | omega)) only [go_sem, Int.reduceToNat, Nat.reduceMul, Nat.reduceAdd, Nat.reduceSub, ↓EU_region, ↓EU_draw, g1, hF1]
      repeat refine WPo_ob ?_
      refine (LP_rule (fun m st => ∃ i tm h2, st = ⟨tm, h2, []⟩ ∧ m = l.length - i ∧ i ≤ l.length ∧ Fr.get tm 1 = ptr h.next 0 ∧ Fr.get tm 27 = .slice a l.length c ∧ Fr.get tm 28 = .int .i64 l.length ∧ Fr.get tm 29 = .int .i64 i ∧ Fr.get tm 3 = .bool (decide ((l.length : Int) = 0) || (l.take i).any lagOk) ∧ Ext h1 h2 ∧ ordOk none l = ordOk (prevAt l i) (l.drop i))
        (fun q => ∃ tm h2, q.2 = ⟨tm, h2, []⟩ ∧ Ext h1 h2 ∧ ((q.1 = .exit 0 ∧ ordOk none l = true ∧ Fr.get tm 3 = .bool (decide ((l.length : Int) = 0) || l.any lagOk)) ∨ (q.1 = .ret ∧ ordOk none l = false ∧ Fr.get tm 2 = .bool false))) ?_ l.length _ _ ?_ ?_).mono ?_
      · clear g1
        rintro m _ ⟨i, tm, h2, rfl, rfl, hi, g1, g27, g28, g29, g3, x2, ho⟩
        simp (maxSteps := 1000000) (disch := first | decide | omega | (simp only [go_sem]; first | done | omega)) only [go_sem, Int.reduceToNat, Nat.reduceMul, Nat.reduceAdd, Nat.reduceSub, g1, g27, g28, g29, g3]
        (first | rw [EU_region] | rw [EU_draw _ _ rfl]); simp (maxSteps := 1000000) (disch := first | decide | omega | (simp only [go_sem]; first | done | omega)) only [go_sem, Int.reduceToNat, Nat.reduceMul, Nat.reduceAdd, Nat.reduceSub, g1, g27, g28, g29, g3]
        ((repeat refine WPo_ob ?_); (first | refine WPo_cond (fun b2 => ?_) (fun b2 => ?_) | refine WPo_gard (fun b2 => ?_) (fun b2 => ?_) | refine WPo_gardT (fun b2 => ?_) (fun b2 => ?_)) <;> (try simp only [Bool.not_eq_true', Bool.not_eq_false'] at b2))
        · simp only [decide_eq_true_eq] at b2
          have hi' : i < l.length := by omega
          obtain ⟨x, hx⟩ : ∃ x, l[i]? = some x := ⟨_, List.getElem?_eq_getElem hi'⟩
          obtain ⟨b, o, c', e, hb', hr, _⟩ := (hs1.ext x2).at hx rfl
          cases e
          have hF2 := (x2.old _ hn1).trans hF1
          have hn2 := x2.le
          simp (maxSteps := 1000000) (disch := first | decide | omega | (simp only [go_sem]; first | done | omega)) only [go_sem, Int.reduceToNat, Nat.reduceMul, Nat.reduceAdd, Nat.reduceSub, g1, g27, g28, g29, g3, hr]
          (first | rw [EU_region] | rw [EU_draw _ _ rfl]); simp (maxSteps := 1000000) (disch := first | decide | omega | (simp only [go_sem]; first | done | omega)) only [go_sem, Int.reduceToNat, Nat.reduceMul, Nat.reduceAdd, Nat.reduceSub, g1, g27, g28, g29, g3, hr]
          rw [EU_draw _ _ rfl]
          repeat refine WPo_ob ?_
          refine WPo.mono (Q := fun st => ∃ tm' h3, st = ⟨tm', h3, []⟩ ∧ Ext (h2.push (.cells (itemE x) 0)) h3 ∧ Fr.get tm' 1 = ptr h.next 0 ∧ Fr.get tm' 5 = ptr h2.next 0 ∧ Fr.get tm' 27 = .slice (some ⟨b, o, none⟩) l.length c ∧ Fr.get tm' 28 = .int .i64 l.length ∧ Fr.get tm' 29 = .int .i64 i ∧ Fr.get tm' 3 = .bool (decide ((l.length : Int) = 0) || (l.take i).any lagOk) ∧
            Fr.get tm' 52 = .bool (!imay x || (match prevAt l i with | none => false | some y => decide (x.id ≤ y.id)))) ?_ ?_
          · simp (maxSteps := 1000000) (disch := first | decide | omega | (simp only [go_sem]; first | done | omega)) only [go_sem, Int.reduceToNat, Nat.reduceMul, Nat.reduceAdd, Nat.reduceSub, ↓EU_region, ↓EU_draw]
            repeat refine WPo_ob ?_
            refine (may_ev x _).bind fun h3 x3 => ?_
            have hn3 := x3.le
            simp only [next_push] at hn3
            have hF3 : h3.get h.next = .cells [.int .i64 cur, .slice (some ⟨b, o, none⟩) l.length c] 0 := by simp (maxSteps := 1000000) (disch := first | decide | omega | (simp only [go_sem]; first | done | omega)) only [go_sem, Int.reduceToNat, Nat.reduceMul, Nat.reduceAdd, Nat.reduceSub, ↓EU_region, ↓EU_draw, x3.old, hF2]
            have hX3 : h3.get h2.next = .cells (itemE x) 0 := by simp (maxSteps := 1000000) (disch := first | decide | omega | (simp only [go_sem]; first | done | omega)) only [go_sem, Int.reduceToNat, Nat.reduceMul, Nat.reduceAdd, Nat.reduceSub, ↓EU_region, ↓EU_draw, x3.old]
            have hr3 : rdc (h3.get b) (o + i * 3) 3 = some (itemE x) := by simp (maxSteps := 1000000) (disch := first | decide | omega | (simp only [go_sem]; first | done | omega)) only [go_sem, Int.reduceToNat, Nat.reduceMul, Nat.reduceAdd, Nat.reduceSub, ↓EU_region, ↓EU_draw, x3.old, hr]
            simp (maxSteps := 1000000) (disch := first | decide | omega | (simp only [go_sem]; first | done | omega)) only [go_sem, Int.reduceToNat, Nat.reduceMul, Nat.reduceAdd, Nat.reduceSub, ↓EU_region, ↓EU_draw, g1, g27, g28, g29, g3, hr, hF3, hX3]
            have hx13 : Ext (h2.push (.cells (itemE x) 0)) h3 := x3
            ((repeat refine WPo_ob ?_); (first | refine WPo_cond (fun b3 => ?_) (fun b3 => ?_) | refine WPo_gard (fun b3 => ?_) (fun b3 => ?_) | refine WPo_gardT (fun b3 => ?_) (fun b3 => ?_)) <;> (try simp only [Bool.not_eq_true', Bool.not_eq_false'] at b3))
            · simp (maxSteps := 1000000) (disch := first | decide | omega | (simp only [go_sem]; first | done | omega)) only [go_sem, Int.reduceToNat, Nat.reduceMul, Nat.reduceAdd, Nat.reduceSub, ↓EU_region, ↓EU_draw, b3, g1, g27, g28, g29, g3, hF3, hX3]
              ((repeat refine WPo_ob ?_); (first | refine WPo_cond (fun b4 => ?_) (fun b4 => ?_) | refine WPo_gard (fun b4 => ?_) (fun b4 => ?_) | refine WPo_gardT (fun b4 => ?_) (fun b4 => ?_)) <;> (try simp only [Bool.not_eq_true', Bool.not_eq_false'] at b4))
              · have b4' := b4
                simp only [decide_eq_true_eq] at b4'
                obtain ⟨y, hy⟩ : ∃ y, l[i - 1]? = some y := ⟨_, List.getElem?_eq_getElem (by omega)⟩
                obtain ⟨_, _, _, e, _, _, hq⟩ := (hs1.ext ((x2.push _).trans x3)).at hy rfl
                cases e
                have hq0 := hq 0 _ rfl
                rw [add_z] at hq0
                simp (maxSteps := 1000000) (disch := first | decide | omega | (simp only [go_sem]; first | done | omega)) only [go_sem, Int.reduceToNat, Nat.reduceMul, Nat.reduceAdd, Nat.reduceSub, ↓EU_region, ↓EU_draw, b4, g1, g27, g28, g29, g3, hF3, hX3, hq0]
                refine ⟨_, _, rfl, x3, by simp (maxSteps := 1000000) (disch := first | decide | omega | (simp only [go_sem]; first | done | omega)) only [go_sem, Int.reduceToNat, Nat.reduceMul, Nat.reduceAdd, Nat.reduceSub, ↓EU_region, ↓EU_draw, g1], by simp (maxSteps := 1000000) (disch := first | decide | omega | (simp only [go_sem]; first | done | omega)) only [go_sem, Int.reduceToNat, Nat.reduceMul, Nat.reduceAdd, Nat.reduceSub, ↓EU_region, ↓EU_draw], by simp (maxSteps := 1000000) (disch := first | decide | omega | (simp only [go_sem]; first | done | omega)) only [go_sem, Int.reduceToNat, Nat.reduceMul, Nat.reduceAdd, Nat.reduceSub, ↓EU_region, ↓EU_draw, g27], by simp (maxSteps := 1000000) (disch := first | decide | omega | (simp only [go_sem]; first | done | omega)) only [go_sem, Int.reduceToNat, Nat.reduceMul, Nat.reduceAdd, Nat.reduceSub, ↓EU_region, ↓EU_draw, g28], by simp (maxSteps := 1000000) (disch := first | decide | omega | (simp only [go_sem]; first | done | omega)) only [go_sem, Int.reduceToNat, Nat.reduceMul, Nat.reduceAdd, Nat.reduceSub, ↓EU_region, ↓EU_draw, g29], by simp (maxSteps := 1000000) (disch := first | decide | omega | (simp only [go_sem]; first | done | omega)) only [go_sem, Int.reduceToNat, Nat.reduceMul, Nat.reduceAdd, Nat.reduceSub, ↓EU_region, ↓EU_draw, g3], ?_⟩
                have : prevAt l i = some y := by unfold prevAt; rw [if_neg (by omega), hy]
                rw [this]
                simp (maxSteps := 1000000) (disch := first | decide | omega | (simp only [go_sem]; first | done | omega)) only [go_sem, Int.reduceToNat, Nat.reduceMul, Nat.reduceAdd, Nat.reduceSub, ↓EU_region, ↓EU_draw]
                rfl
              · have b4' := b4
                simp only [decide_eq_false_iff_not] at b4'
                simp (maxSteps := 1000000) (disch := first | decide | omega | (simp only [go_sem]; first | done | omega)) only [go_sem, Int.reduceToNat, Nat.reduceMul, Nat.reduceAdd, Nat.reduceSub, ↓EU_region, ↓EU_draw, b4, g1, g27, g28, g29, g3, hF3, hX3]
                refine ⟨_, _, rfl, x3, by simp (maxSteps := 1000000) (disch := first | decide | omega | (simp only [go_sem]; first | done | omega)) only [go_sem, Int.reduceToNat, Nat.reduceMul, Nat.reduceAdd, Nat.reduceSub, ↓EU_region, ↓EU_draw, g1], by simp (maxSteps := 1000000) (disch := first | decide | omega | (simp only [go_sem]; first | done | omega)) only [go_sem, Int.reduceToNat, Nat.reduceMul, Nat.reduceAdd, Nat.reduceSub, ↓EU_region, ↓EU_draw], by simp (maxSteps := 1000000) (disch := first | decide | omega | (simp only [go_sem]; first | done | omega)) only [go_sem, Int.reduceToNat, Nat.reduceMul, Nat.reduceAdd, Nat.reduceSub, ↓EU_region, ↓EU_draw, g27], by simp (maxSteps := 1000000) (disch := first | decide | omega | (simp only [go_sem]; first | done | omega)) only [go_sem, Int.reduceToNat, Nat.reduceMul, Nat.reduceAdd, Nat.reduceSub, ↓EU_region, ↓EU_draw, g28], by simp (maxSteps := 1000000) (disch := first | decide | omega | (simp only [go_sem]; first | done | omega)) only [go_sem, Int.reduceToNat, Nat.reduceMul, Nat.reduceAdd, Nat.reduceSub, ↓EU_region, ↓EU_draw, g29], by simp (maxSteps := 1000000) (disch := first | decide | omega | (simp only [go_sem]; first | done | omega)) only [go_sem, Int.reduceToNat, Nat.reduceMul, Nat.reduceAdd, Nat.reduceSub, ↓EU_region, ↓EU_draw, g3], ?_⟩
                have : prevAt l i = none := by unfold prevAt; rw [if_pos (by omega)]
                rw [this]
                simp (maxSteps := 1000000) (disch := first | decide | omega | (simp only [go_sem]; first | done | omega)) only [go_sem, Int.reduceToNat, Nat.reduceMul, Nat.reduceAdd, Nat.reduceSub, ↓EU_region, ↓EU_draw]
                rfl
            · simp (maxSteps := 1000000) (disch := first | decide | omega | (simp only [go_sem]; first | done | omega)) only [go_sem, Int.reduceToNat, Nat.reduceMul, Nat.reduceAdd, Nat.reduceSub, ↓EU_region, ↓EU_draw, b3, g1, g27, g28, g29, g3, hF3, hX3]
              refine ⟨_, _, rfl, x3, by simp (maxSteps := 1000000) (disch := first | decide | omega | (simp only [go_sem]; first | done | omega)) only [go_sem, Int.reduceToNat, Nat.reduceMul, Nat.reduceAdd, Nat.reduceSub, ↓EU_region, ↓EU_draw, g1], by simp (maxSteps := 1000000) (disch := first | decide | omega | (simp only [go_sem]; first | done | omega)) only [go_sem, Int.reduceToNat, Nat.reduceMul, Nat.reduceAdd, Nat.reduceSub, ↓EU_region, ↓EU_draw], by simp (maxSteps := 1000000) (disch := first | decide | omega | (simp only [go_sem]; first | done | omega)) only [go_sem, Int.reduceToNat, Nat.reduceMul, Nat.reduceAdd, Nat.reduceSub, ↓EU_region, ↓EU_draw, g27], by simp (maxSteps := 1000000) (disch := first | decide | omega | (simp only [go_sem]; first | done | omega)) only [go_sem, Int.reduceToNat, Nat.reduceMul, Nat.reduceAdd, Nat.reduceSub, ↓EU_region, ↓EU_draw, g28], by simp (maxSteps := 1000000) (disch := first | decide | omega | (simp only [go_sem]; first | done | omega)) only [go_sem, Int.reduceToNat, Nat.reduceMul, Nat.reduceAdd, Nat.reduceSub, ↓EU_region, ↓EU_draw, g29], by simp (maxSteps := 1000000) (disch := first | decide | omega | (simp only [go_sem]; first | done | omega)) only [go_sem, Int.reduceToNat, Nat.reduceMul, Nat.reduceAdd, Nat.reduceSub, ↓EU_region, ↓EU_draw, g3], ?_⟩
              simp (maxSteps := 1000000) (disch := first | decide | omega | (simp only [go_sem]; first | done | omega)) only [go_sem, Int.reduceToNat, Nat.reduceMul, Nat.reduceAdd, Nat.reduceSub, ↓EU_region, ↓EU_draw]
              rfl
          · rintro _ ⟨tm', h3, rfl, x3, k1, k5, k27, k28, k29, k3, k52⟩
            have hn3 := x3.le
            simp only [next_push] at hn3
            have hX3 : h3.get h2.next = .cells (itemE x) 0 := by simp (maxSteps := 1000000) (disch := first | decide | omega | (simp only [go_sem]; first | done | omega)) only [go_sem, Int.reduceToNat, Nat.reduceMul, Nat.reduceAdd, Nat.reduceSub, ↓EU_region, ↓EU_draw, x3.old]
            have hx13 : Ext h1 h3 := (x2.push _).trans x3
            simp (maxSteps := 1000000) (disch := first | decide | omega | (simp only [go_sem]; first | done | omega)) only [go_sem, Int.reduceToNat, Nat.reduceMul, Nat.reduceAdd, Nat.reduceSub, k1, k5, k27, k28, k29, k3, k52]
            ((repeat refine WPo_ob ?_); (first | refine WPo_cond (fun b5 => ?_) (fun b5 => ?_) | refine WPo_gard (fun b5 => ?_) (fun b5 => ?_) | refine WPo_gardT (fun b5 => ?_) (fun b5 => ?_)) <;> (try simp only [Bool.not_eq_true', Bool.not_eq_false'] at b5))
            · simp (maxSteps := 1000000) (disch := first | decide | omega | (simp only [go_sem]; first | done | omega)) only [go_sem, Int.reduceToNat, Nat.reduceMul, Nat.reduceAdd, Nat.reduceSub, ↓EU_region, ↓EU_draw, k1, k5, k27, k28, k29, k3, k52, b5]
              refine ⟨_, _, rfl, hx13, .inr ⟨trivial, ?_, by simp (maxSteps := 1000000) (disch := first | decide | omega | (simp only [go_sem]; first | done | omega)) only [go_sem, Int.reduceToNat, Nat.reduceMul, Nat.reduceAdd, Nat.reduceSub, ↓EU_region, ↓EU_draw]⟩⟩
              rw [ho, drop_at hx]
              cases hp : prevAt l i with
              | none => rw [hp] at b5; simp only [Bool.or_false, Bool.not_eq_true'] at b5; simp [ordOk, b5]
              | some y =>
                rw [hp] at b5
                simp only [Bool.or_eq_true, Bool.not_eq_true', decide_eq_true_eq] at b5
                rcases b5 with b5 | b5
                · simp [ordOk, b5]
                · simp only [ordOk]; rw [decide_eq_false (by omega : ¬ y.id < x.id)]; simp
            · have ho' : ordOk none l = ordOk (prevAt l (i + 1)) (l.drop (i + 1)) := by
                have hp1 : prevAt l (i + 1) = some x := by unfold prevAt; rw [if_neg (by omega), Nat.add_sub_cancel, hx]
                rw [ho, drop_at hx, hp1]
                cases hp : prevAt l i with
                | none => rw [hp] at b5; simp only [Bool.or_false, Bool.not_eq_false'] at b5; simp [ordOk, b5]
                | some y =>
                  rw [hp] at b5
                  simp only [Bool.or_eq_false_iff, Bool.not_eq_false', decide_eq_false_iff_not] at b5
                  simp only [ordOk]; rw [decide_eq_true (by omega : y.id < x.id), b5.1]; simp
              simp (maxSteps := 1000000) (disch := first | decide | omega | (simp only [go_sem]; first | done | omega)) only [go_sem, Int.reduceToNat, Nat.reduceMul, Nat.reduceAdd, Nat.reduceSub, ↓EU_region, ↓EU_draw, k1, k5, k27, k28, k29, k3, k52, b5]
              ((repeat refine WPo_ob ?_); (first | refine WPo_cond (fun b6 => ?_) (fun b6 => ?_) | refine WPo_gard (fun b6 => ?_) (fun b6 => ?_) | refine WPo_gardT (fun b6 => ?_) (fun b6 => ?_)) <;> (try simp only [Bool.not_eq_true', Bool.not_eq_false'] at b6))
              · simp (maxSteps := 1000000) (disch := first | decide | omega | (simp only [go_sem]; first | done | omega)) only [go_sem, Int.reduceToNat, Nat.reduceMul, Nat.reduceAdd, Nat.reduceSub, ↓EU_region, ↓EU_draw, k1, k5, k27, k28, k29, k3, k52, b6, hX3]
                refine ⟨_, by omega, i + 1, _, _, rfl, rfl, by omega, by simp (maxSteps := 1000000) (disch := first | decide | omega | (simp only [go_sem]; first | done | omega)) only [go_sem, Int.reduceToNat, Nat.reduceMul, Nat.reduceAdd, Nat.reduceSub, ↓EU_region, ↓EU_draw, k1], by simp (maxSteps := 1000000) (disch := first | decide | omega | (simp only [go_sem]; first | done | omega)) only [go_sem, Int.reduceToNat, Nat.reduceMul, Nat.reduceAdd, Nat.reduceSub, ↓EU_region, ↓EU_draw, k27], by simp (maxSteps := 1000000) (disch := first | decide | omega | (simp only [go_sem]; first | done | omega)) only [go_sem, Int.reduceToNat, Nat.reduceMul, Nat.reduceAdd, Nat.reduceSub, ↓EU_region, ↓EU_draw, k28], by simp (maxSteps := 1000000) (disch := first | decide | omega | (simp only [go_sem]; first | done | omega)) only [go_sem, Int.reduceToNat, Nat.reduceMul, Nat.reduceAdd, Nat.reduceSub, ↓EU_region, ↓EU_draw], ?_, hx13, ho'⟩
                rw [take_any _ hx, ← Bool.or_assoc, b6]
                simp (maxSteps := 1000000) (disch := first | decide | omega | (simp only [go_sem]; first | done | omega)) only [go_sem, Int.reduceToNat, Nat.reduceMul, Nat.reduceAdd, Nat.reduceSub, ↓EU_region, ↓EU_draw]
                rfl
              · simp (maxSteps := 1000000) (disch := first | decide | omega | (simp only [go_sem]; first | done | omega)) only [go_sem, Int.reduceToNat, Nat.reduceMul, Nat.reduceAdd, Nat.reduceSub, ↓EU_region, ↓EU_draw, k1, k5, k27, k28, k29, k3, k52, b6, hX3]
                refine ⟨_, by omega, i + 1, _, _, rfl, rfl, by omega, by simp (maxSteps := 1000000) (disch := first | decide | omega | (simp only [go_sem]; first | done | omega)) only [go_sem, Int.reduceToNat, Nat.reduceMul, Nat.reduceAdd, Nat.reduceSub, ↓EU_region, ↓EU_draw, k1], by simp (maxSteps := 1000000) (disch := first | decide | omega | (simp only [go_sem]; first | done | omega)) only [go_sem, Int.reduceToNat, Nat.reduceMul, Nat.reduceAdd, Nat.reduceSub, ↓EU_region, ↓EU_draw, k27], by simp (maxSteps := 1000000) (disch := first | decide | omega | (simp only [go_sem]; first | done | omega)) only [go_sem, Int.reduceToNat, Nat.reduceMul, Nat.reduceAdd, Nat.reduceSub, ↓EU_region, ↓EU_draw, k28], by simp (maxSteps := 1000000) (disch := first | decide | omega | (simp only [go_sem]; first | done | omega)) only [go_sem, Int.reduceToNat, Nat.reduceMul, Nat.reduceAdd, Nat.reduceSub, ↓EU_region, ↓EU_draw], ?_, hx13, ho'⟩
                rw [take_any _ hx, ← Bool.or_assoc, b6]
                simp (maxSteps := 1000000) (disch := first | decide | omega | (simp only [go_sem]; first | done | omega)) only [go_sem, Int.reduceToNat, Nat.reduceMul, Nat.reduceAdd, Nat.reduceSub, ↓EU_region, ↓EU_draw]
                rfl
        · simp only [decide_eq_false_iff_not] at b2
          simp (maxSteps := 1000000) (disch := first | decide | omega | (simp only [go_sem]; first | done | omega)) only [go_sem, Int.reduceToNat, Nat.reduceMul, Nat.reduceAdd, Nat.reduceSub, ↓EU_region, ↓EU_draw]
          have : i = l.length := by omega
          subst this
          rw [List.take_length] at g3
          refine ⟨_, _, rfl, x2, .inl ⟨trivial, ?_, by simp (maxSteps := 1000000) (disch := first | decide | omega | (simp only [go_sem]; first | done | omega)) only [go_sem, Int.reduceToNat, Nat.reduceMul, Nat.reduceAdd, Nat.reduceSub, ↓EU_region, ↓EU_draw, g3]⟩⟩
          rw [ho, List.drop_length]
          cases prevAt l l.length <;> rfl
      · exact ⟨0, _, _, rfl, rfl, by omega, by simp (maxSteps := 1000000) (disch := first | decide | omega | (simp only [go_sem]; first | done | omega)) only [go_sem, Int.reduceToNat, Nat.reduceMul, Nat.reduceAdd, Nat.reduceSub, ↓EU_region, ↓EU_draw, g1], by simp (maxSteps := 1000000) (disch := first | decide | omega | (simp only [go_sem]; first | done | omega)) only [go_sem, Int.reduceToNat, Nat.reduceMul, Nat.reduceAdd, Nat.reduceSub, ↓EU_region, ↓EU_draw], by simp (maxSteps := 1000000) (disch := first | decide | omega | (simp only [go_sem]; first | done | omega)) only [go_sem, Int.reduceToNat, Nat.reduceMul, Nat.reduceAdd, Nat.reduceSub, ↓EU_region, ↓EU_draw], by simp (maxSteps := 1000000) (disch := first | decide | omega | (simp only [go_sem]; first | done | omega)) only [go_sem, Int.reduceToNat, Nat.reduceMul, Nat.reduceAdd, Nat.reduceSub, ↓EU_region, ↓EU_draw]; rfl, by simp (maxSteps := 1000000) (disch := first | decide | omega | (simp only [go_sem]; first | done | omega)) only [go_sem, Int.reduceToNat, Nat.reduceMul, Nat.reduceAdd, Nat.reduceSub, ↓EU_region, ↓EU_draw]; simp, Ext.refl _, rfl⟩
      · omega
      · rintro ⟨q, _⟩ ⟨tm, h2, rfl, x2, ⟨rfl, e1, e2⟩ | ⟨rfl, e1, e2⟩⟩
        · simp (maxSteps := 1000000) (disch := first | decide | omega | (simp only [go_sem]; first | done | omega)) only [go_sem, Int.reduceToNat, Nat.reduceMul, Nat.reduceAdd, Nat.reduceSub, ↓EU_region, ↓EU_draw, e2]
          rw [e1]
          exact ⟨by simp, hx1.trans x2⟩
        · simp (maxSteps := 1000000) (disch := first | decide | omega | (simp only [go_sem]; first | done | omega)) only [go_sem, Int.reduceToNat, Nat.reduceMul, Nat.reduceAdd, Nat.reduceSub, ↓EU_region, ↓EU_draw, e2]
          rw [e1]
          exact ⟨rfl, hx1.trans x2⟩

noncomputable def itemEq (x y : Item) : Bool := decide (x.id = y.id) && (decide (x.w = y.w) && decide (x.lag = y.lag))
theorem itemEq_iff (x y : Item) : itemEq x y = true ↔ x = y := by
  cases x; cases y; simp [itemEq]
noncomputable def itemC (a b : Item) (f : Field) : Bool := match f.offset with
  | 0 => a.id == b.id
  | 1 => a.w == b.w
  | _ => a.lag == b.lag
theorem itemE_flatV (x : Item) : (itemE x).all flat1 = true := rfl
theorem item_equal (a b : Item) : absPure Tryz.prog (Op.equal 43 (.agg ⟨itemE a⟩) (.agg ⟨itemE b⟩)) = some (itemEq a b) := by
  rw [eq_struct Tryz.underlying43 (by kernel_rfl) (itemC a b)]
  · simp [itemC, itemEq]
    rfl
  · intro f hf
    simp only [List.mem_cons, List.not_mem_nil, or_false] at hf
    rcases hf with rfl | rfl | rfl <;> exact ⟨by decide, by kernel_rfl⟩
@[go_sem] theorem item_eql (x y : Operand) (a b : Item) : evBin Tryz.prog .eql 43 x y (.agg ⟨itemE a⟩) (.agg ⟨itemE b⟩) = some (.bool (itemEq a b)) := bin_eqlS (item_equal a b) (by kernel_rfl) rfl rfl
@[go_sem] theorem item_neq (x y : Operand) (a b : Item) : evBin Tryz.prog .neq 43 x y (.agg ⟨itemE a⟩) (.agg ⟨itemE b⟩) = some (.bool (!itemEq a b)) := bin_neqS (item_equal a b) (by kernel_rfl) rfl rfl
theorem slEq_ev (l m : List Item) (s t : Value) (h : Heap) (hs : SL itemE 3 h s l) (ht : SL itemE 3 h t m) (hl : l.length < 900000) :
    Pu (EF Tryz.prog O0 38 [s, t] h) h (.bool (decide (l = m))) := by
  unfold Pu
  rw [EF_body (O := O0) (by kernel_rfl) Tryz.func38 rfl (rs := [.tmp 4]) rfl (bad := []) (by kernel_rfl) _ _ (m := 26) rfl]
  obtain ⟨a, c, hv⟩ := hs.val
  subst hv
  obtain ⟨a2, c2, hv⟩ := ht.val
  subst hv
  simp (maxSteps := 1000000) (disch := first | decide | omega | (simp only [go_sem]; first | done | omega)) only [go_sem, Int.reduceToNat, Nat.reduceMul, Nat.reduceAdd, Nat.reduceSub, ↓EU_region, ↓EU_draw]
  ((repeat refine WPo_ob ?_); (first | refine WPo_cond (fun b1 => ?_) (fun b1 => ?_) | refine WPo_gard (fun b1 => ?_) (fun b1 => ?_) | refine WPo_gardT (fun b1 => ?_) (fun b1 => ?_)) <;> (try simp only [Bool.not_eq_true', Bool.not_eq_false'] at b1))
  · simp (maxSteps := 1000000) (disch := first | decide | omega | (simp only [go_sem]; first | done | omega)) only [go_sem, Int.reduceToNat, Nat.reduceMul, Nat.reduceAdd, Nat.reduceSub, ↓EU_region, ↓EU_draw, b1]
    refine ⟨?_, Ext.refl _⟩
    simp only [decide_eq_false_iff_not] at b1
    rw [decide_eq_false]
    intro e; subst e; exact b1 rfl
  · simp only [decide_eq_true_eq] at b1
    have b1' : l.length = m.length := by omega
    simp (maxSteps := 1000000) (disch := first | decide | omega | (simp only [go_sem]; first | done | omega)) only [go_sem, Int.reduceToNat, Nat.reduceMul, Nat.reduceAdd, Nat.reduceSub, ↓EU_region, ↓EU_draw]
    repeat refine WPo_ob ?_
    refine (LP_rule (fun k st => ∃ i tm h1, st = ⟨tm, h1, []⟩ ∧ k = l.length - i ∧ i ≤ l.length ∧ Fr.get tm 0 = .slice a l.length c ∧ Fr.get tm 1 = .slice a2 m.length c2 ∧ Fr.get tm 12 = .int .i64 l.length ∧ Fr.get tm 13 = .int .i64 i ∧ Ext h h1 ∧ l.take i = m.take i)
      (fun q => ∃ tm h1, q.2 = ⟨tm, h1, []⟩ ∧ Ext h h1 ∧ ((q.1 = .exit 0 ∧ l = m) ∨ (q.1 = .ret ∧ l ≠ m ∧ Fr.get tm 4 = .bool false))) ?_ l.length _ _ ?_ ?_).mono ?_
    · rintro k _ ⟨i, tm, h1, rfl, rfl, hi, g0, g1, g12, g13, x1, ht1⟩
      simp (maxSteps := 1000000) (disch := first | decide | omega | (simp only [go_sem]; first | done | omega)) only [go_sem, Int.reduceToNat, Nat.reduceMul, Nat.reduceAdd, Nat.reduceSub, ↓EU_region, ↓EU_draw, g0, g1, g12, g13]
      ((repeat refine WPo_ob ?_); (first | refine WPo_cond (fun b2 => ?_) (fun b2 => ?_) | refine WPo_gard (fun b2 => ?_) (fun b2 => ?_) | refine WPo_gardT (fun b2 => ?_) (fun b2 => ?_)) <;> (try simp only [Bool.not_eq_true', Bool.not_eq_false'] at b2))
      · simp only [decide_eq_true_eq] at b2
        have hi' : i < l.length := by omega
        obtain ⟨x, hx⟩ : ∃ x, l[i]? = some x := ⟨_, List.getElem?_eq_getElem hi'⟩
        obtain ⟨y, hy⟩ : ∃ y, m[i]? = some y := ⟨_, List.getElem?_eq_getElem (by omega)⟩
        obtain ⟨b, o, c', e, hb', hr, _⟩ := (hs.ext x1).at hx rfl
        cases e
        obtain ⟨b', o', c', e, hb'', hr', _⟩ := (ht.ext x1).at hy rfl
        cases e
        simp (maxSteps := 1000000) (disch := first | decide | omega | (simp only [go_sem]; first | done | omega)) only [go_sem, Int.reduceToNat, Nat.reduceMul, Nat.reduceAdd, Nat.reduceSub, ↓EU_region, ↓EU_draw, g0, g1, g12, g13, hr, hr']
        ((repeat refine WPo_ob ?_); (first | refine WPo_cond (fun b3 => ?_) (fun b3 => ?_) | refine WPo_gard (fun b3 => ?_) (fun b3 => ?_) | refine WPo_gardT (fun b3 => ?_) (fun b3 => ?_)) <;> (try simp only [Bool.not_eq_true', Bool.not_eq_false'] at b3))
        · simp (maxSteps := 1000000) (disch := first | decide | omega | (simp only [go_sem]; first | done | omega)) only [go_sem, Int.reduceToNat, Nat.reduceMul, Nat.reduceAdd, Nat.reduceSub, ↓EU_region, ↓EU_draw, b3]
          refine ⟨_, _, rfl, x1, .inr ⟨trivial, ?_, by simp (maxSteps := 1000000) (disch := first | decide | omega | (simp only [go_sem]; first | done | omega)) only [go_sem, Int.reduceToNat, Nat.reduceMul, Nat.reduceAdd, Nat.reduceSub, ↓EU_region, ↓EU_draw]⟩⟩
          intro e
          subst e
          rw [hx] at hy
          cases hy
          rw [(itemEq_iff x x).2 rfl] at b3
          cases b3
        · have e := (itemEq_iff x y).1 b3
          simp (maxSteps := 1000000) (disch := first | decide | omega | (simp only [go_sem]; first | done | omega)) only [go_sem, Int.reduceToNat, Nat.reduceMul, Nat.reduceAdd, Nat.reduceSub, ↓EU_region, ↓EU_draw, b3, g12, g13]
          refine ⟨_, by omega, i + 1, _, _, rfl, rfl, by omega, by simp (maxSteps := 1000000) (disch := first | decide | omega | (simp only [go_sem]; first | done | omega)) only [go_sem, Int.reduceToNat, Nat.reduceMul, Nat.reduceAdd, Nat.reduceSub, ↓EU_region, ↓EU_draw, g0], by simp (maxSteps := 1000000) (disch := first | decide | omega | (simp only [go_sem]; first | done | omega)) only [go_sem, Int.reduceToNat, Nat.reduceMul, Nat.reduceAdd, Nat.reduceSub, ↓EU_region, ↓EU_draw, g1], by simp (maxSteps := 1000000) (disch := first | decide | omega | (simp only [go_sem]; first | done | omega)) only [go_sem, Int.reduceToNat, Nat.reduceMul, Nat.reduceAdd, Nat.reduceSub, ↓EU_region, ↓EU_draw, g12], by simp (maxSteps := 1000000) (disch := first | decide | omega | (simp only [go_sem]; first | done | omega)) only [go_sem, Int.reduceToNat, Nat.reduceMul, Nat.reduceAdd, Nat.reduceSub, ↓EU_region, ↓EU_draw], x1, ?_⟩
          rw [List.take_add_one, List.take_add_one, ht1, hx, hy, e]
      · simp only [decide_eq_false_iff_not] at b2
        simp (maxSteps := 1000000) (disch := first | decide | omega | (simp only [go_sem]; first | done | omega)) only [go_sem, Int.reduceToNat, Nat.reduceMul, Nat.reduceAdd, Nat.reduceSub, ↓EU_region, ↓EU_draw]
        have : i = l.length := by omega
        subst this
        rw [List.take_length, List.take_of_length_le (by omega)] at ht1
        exact ⟨_, _, rfl, x1, .inl ⟨trivial, ht1⟩⟩
    · exact ⟨0, _, _, rfl, rfl, by omega, by simp (maxSteps := 1000000) (disch := first | decide | omega | (simp only [go_sem]; first | done | omega)) only [go_sem, Int.reduceToNat, Nat.reduceMul, Nat.reduceAdd, Nat.reduceSub, ↓EU_region, ↓EU_draw], by simp (maxSteps := 1000000) (disch := first | decide | omega | (simp only [go_sem]; first | done | omega)) only [go_sem, Int.reduceToNat, Nat.reduceMul, Nat.reduceAdd, Nat.reduceSub, ↓EU_region, ↓EU_draw], by simp (maxSteps := 1000000) (disch := first | decide | omega | (simp only [go_sem]; first | done | omega)) only [go_sem, Int.reduceToNat, Nat.reduceMul, Nat.reduceAdd, Nat.reduceSub, ↓EU_region, ↓EU_draw], by simp (maxSteps := 1000000) (disch := first | decide | omega | (simp only [go_sem]; first | done | omega)) only [go_sem, Int.reduceToNat, Nat.reduceMul, Nat.reduceAdd, Nat.reduceSub, ↓EU_region, ↓EU_draw]; rfl, Ext.refl _, by simp⟩
    · omega
    · rintro ⟨q, _⟩ ⟨tm, h2, rfl, x2, ⟨rfl, e1⟩ | ⟨rfl, e1, e2⟩⟩
      · simp (maxSteps := 1000000) (disch := first | decide | omega | (simp only [go_sem]; first | done | omega)) only [go_sem, Int.reduceToNat, Nat.reduceMul, Nat.reduceAdd, Nat.reduceSub, ↓EU_region, ↓EU_draw]
        exact ⟨by rw [decide_eq_true e1], x2⟩
      · simp (maxSteps := 1000000) (disch := first | decide | omega | (simp only [go_sem]; first | done | omega)) only [go_sem, Int.reduceToNat, Nat.reduceMul, Nat.reduceAdd, Nat.reduceSub, ↓EU_region, ↓EU_draw, e2]
        exact ⟨by rw [decide_eq_false e1], x2⟩
theorem same_ev (c1 c2 : Int) (l m : List Item) (s t : Value) (h : Heap) (hs : SL itemE 3 h s l) (ht : SL itemE 3 h t m) (hl : l.length < 900000) :
    Pu (EF Tryz.prog O0 12 [formV c1 s, formV c2 t] h) h (.bool (decide (c1 = c2) && decide (l = m))) := by
  unfold Pu formV
  rw [EF_body (O := O0) (by kernel_rfl) Tryz.func12 rfl (rs := [.tmp 4]) rfl (bad := []) (by kernel_rfl) _ _ (m := 17) rfl]
  obtain ⟨a, c, hv⟩ := hs.val
  subst hv
  obtain ⟨a2, c2, hv⟩ := ht.val
  subst hv
  simp (maxSteps := 1000000) (disch := first | decide | omega | (simp only [go_sem]; first | done | omega)) only [go_sem, Int.reduceToNat, Nat.reduceMul, Nat.reduceAdd, Nat.reduceSub, ↓EU_region, ↓EU_draw]
  ((repeat refine WPo_ob ?_); (first | refine WPo_cond (fun b1 => ?_) (fun b1 => ?_) | refine WPo_gard (fun b1 => ?_) (fun b1 => ?_) | refine WPo_gardT (fun b1 => ?_) (fun b1 => ?_)) <;> (try simp only [Bool.not_eq_true', Bool.not_eq_false'] at b1))
  · simp (maxSteps := 1000000) (disch := first | decide | omega | (simp only [go_sem]; first | done | omega)) only [go_sem, Int.reduceToNat, Nat.reduceMul, Nat.reduceAdd, Nat.reduceSub, ↓EU_region, ↓EU_draw, b1]
    repeat refine WPo_ob ?_
    refine (slEq_ev l m _ _ _ (hs.ext (((Ext.refl h).push _).push _)) (ht.ext (((Ext.refl h).push _).push _)) hl).bind fun h1 x1 => ?_
    simp (maxSteps := 1000000) (disch := first | decide | omega | (simp only [go_sem]; first | done | omega)) only [go_sem, Int.reduceToNat, Nat.reduceMul, Nat.reduceAdd, Nat.reduceSub, ↓EU_region, ↓EU_draw, b1]
    exact ⟨trivial, (((Ext.refl h).push _).push _).trans x1⟩
  · simp (maxSteps := 1000000) (disch := first | decide | omega | (simp only [go_sem]; first | done | omega)) only [go_sem, Int.reduceToNat, Nat.reduceMul, Nat.reduceAdd, Nat.reduceSub, ↓EU_region, ↓EU_draw, b1]
    exact ⟨trivial, ((Ext.refl h).push _).push _⟩
end Go.Proofs.YtddgcakiceodgaaGreat.EV
